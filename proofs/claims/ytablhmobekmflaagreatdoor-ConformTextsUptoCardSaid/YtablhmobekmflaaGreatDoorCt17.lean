/- Texts laid together. -/
import Derived.Test.YtablhmobekmflaaGreatDoorCt16
import Derived.Test.YtablhmobekmflaaGreatDoorCt12
import Derived.Test.YtablhmobekmflaaGreatDoorCt15
import Derived.Shelf.SlSortCmp.WholeK
import Derived.Shelf.SlSortCmp.NoneTotal
import Derived.Test.YtablhmobekmflaaGreatDoorCt10
import Derived.Test.YtablhmobekmflaaGreatDoorCt13
import Derived.Test.YtablhmobekmflaaGreatDoorCt02
set_option linter.unusedVariables false
set_option linter.unusedSimpArgs false
namespace Go.Proofs.YtablhmobekmflaaGreatDoor
section
open Go.RowKit Go.Maps
theorem own_same {w w1 : World} {L size n : Nat} {T : TypeId} {v : Value} {xs : List Value} (h : w.ownsRow L T size v n xs) (k : ∀ q, v.ownBlock = some q → w1.heap[q]? = w.heap[q]?) : w1.ownsRow L T size v n xs := by
 refine ⟨h.1, ?_⟩
 rcases h.2 with hn | ⟨g, cap, cur, rfl, hb, hg, rest⟩
 · exact .inl hn
 · exact .inr ⟨g, cap, cur, rfl, hb, (k g rfl).trans hg, rest⟩
theorem EvsOwn.same {w w1 : World} {L n : Nat} {v : Value} {l : List Ev} (h : EvsOwn w L v n l) (k : ∀ q, v.ownBlock = some q → w1.heap[q]? = w.heap[q]?) (k1 : KB 174 w w1) (k2 : KB 171 w w1) : EvsOwn w1 L v n l := by
 obtain ⟨hs, h1, h2, h3, h4⟩ := h
 exact ⟨hs, own_same h1 k, h2, h3, fun i x e a b => (h4 i x e a b).kb k1 k2⟩
theorem EvsOwn.typed {w : World} {L n : Nat} {v : Value} {l : List Ev} (h : EvsOwn w L v n l) : ∀ q, v.ownBlock = some q → Typed w 64 q := by
 obtain ⟨hs, h1, -⟩ := h
 exact own_typed h1
theorem EvsOwn.low {w : World} {L n : Nat} {v : Value} {l : List Ev} (h : EvsOwn w L v n l) : ∀ q, v.ownBlock = some q → L ≤ q := by
 obtain ⟨hs, h1, -⟩ := h
 exact own_lt h1
structure MnF (w wJ : World) (gD : Nat) (uF ur : Value) (e : Edl) (lg : ByteArray) (mR : List Reg) (X : Nat → Prop) (vE : Value) (last : Int) (s : ConSt) (wr : World) : Prop where
 ext : Ext w wr
 keep : Keep (fun q => q = gD ∨ uF.ownBlock = some q) wJ wr
 doc : Blk wr gD 52 (oCells e lg last ur vE)
 evs : EvsOwn wr wJ.heap.size vE s.evs.length s.evs
 sep : ∀ q, vE.ownBlock = some q → ¬ X q
 fats : FatsOwn wr w.heap.size wJ.heap.size uF s.fats
 regs : wr.ownsRow w.heap.size 105 7 ur mR.length (mR.flatMap Reg.vals)
section
variable {w wJ wr w2 : World} {gD : Nat} {uF ur vE : Value} {e : Edl} {lg : ByteArray} {mR : List Reg} {X : Nat → Prop} {last : Int} {s : ConSt}
theorem MnF.step (h : MnF w wJ gD uF ur e lg mR X vE last s wr) (q : Ext wr w2) : MnF w wJ gD uF ur e lg mR X vE last s w2 :=
 ⟨h.ext.trans q, h.keep.ext q, h.doc.ext q, h.evs.ext q, h.sep, h.fats.ext q, own_ext h.regs q⟩
theorem MnF.putDoc (h : MnF w wJ gD uF ur e lg mR X vE last s wr) (hw : w.heap.size ≤ gD) (last' : Int) : MnF w wJ gD uF ur e lg mR X vE last' s (putB wr gD 52 (oCells e lg last' ur vE)) :=
 ⟨h.ext.put hw _ _, h.keep.put (.inl (.inl rfl)), h.doc.put _, h.evs.kb (KB.put h.doc (by decide)) (KB.put h.doc (by decide)) (KB.put h.doc (by decide)), h.sep, h.fats.kb (KB.put h.doc (by decide)) (KB.put h.doc (by decide)), own_kb h.regs (KB.put h.doc (by decide))⟩
theorem MnF.poke {g : Nat} {cs cs' : Array Value} (h : MnF w wJ gD uF ur e lg mR X vE last s wr) (hB : Blk wr g 64 cs) (hw : w.heap.size ≤ g) (hJ : wJ.heap.size ≤ g) (hne : ∀ q, vE.ownBlock = some q → q ≠ g) : MnF w wJ gD uF ur e lg mR X vE last s (putB wr g 64 cs') := by
 refine ⟨h.ext.put hw _ _, h.keep.put (.inr hJ), h.doc.kb (KB.put hB (by decide)), h.evs.same (fun q hq => ?_) (KB.put hB (by decide)) (KB.put hB (by decide)), h.sep, h.fats.kb (KB.put hB (by decide)) (KB.put hB (by decide)), own_kb h.regs (KB.put hB (by decide))⟩
 unfold putB
 simp only
 rw [Array.getElem?_setIfInBounds_ne (fun e => hne q hq e.symm)]
theorem MnF.app {w5 : World} {v' : Value} {x : Ev} {A' : Option Addr} {n' c' : Nat} (h : MnF w wJ gD uF ur e lg mR X vE last s wr) (hw : w.heap.size ≤ gD) (hJw : w.heap.size ≤ wJ.heap.size) (q : Ext wr w5) (hg : w5.grownBy w2 vE.ownBlock) (hX : ∀ q, X q → q < w5.heap.size) (hE : EGood w5 wJ.heap.size (EH.of x A' n' c') x)
 (hloc : v'.ownBlock = vE.ownBlock ∨ v'.ownBlock = some w5.heap.size) (hO : ∀ xs, w5.ownsRow wJ.heap.size 64 7 vE s.evs.length xs → w2.ownsRow wJ.heap.size 64 7 v' (s.evs.length + 1) (xs ++ (x.cells A' n' c').toList)) :
 MnF w wJ gD uF ur e lg mR X v' last ⟨s.evs ++ [x], s.fats⟩ (putB w2 gD 52 (oCells e lg last ur v')) := by
 have h5 := h.step q
 have ho := Only.grown hg h5.evs.typed
 have hD := h5.doc.only ho (by decide)
 refine ⟨(Ext.grown h5.ext hg (fun q hq => Nat.le_trans hJw (h5.evs.low q hq))).put hw _ _, (h5.keep.grown hg (fun q hq => .inr (h5.evs.low q hq))).put (.inl (.inl rfl)), hD.put _, ?_, fun q hq => ?_, (h5.fats.kb (ho.kb _ (by decide)) (ho.kb _ (by decide))).kb (KB.put hD (by decide)) (KB.put hD (by decide)), own_kb (own_kb h5.regs (ho.kb _ (by decide))) (KB.put hD (by decide))⟩
 · have := (h5.evs.snoc hE hg hO).kb (KB.put (cs' := oCells e lg last ur v') hD (by decide)) (KB.put (cs' := oCells e lg last ur v') hD (by decide)) (KB.put (cs' := oCells e lg last ur v') hD (by decide))
   simpa using this
 · rcases hloc with hl | hl
   · rw [hl] at hq; exact h.sep q hq
   · rw [hl] at hq
     cases hq
     intro hx
     exact Nat.lt_irrefl _ (hX _ hx)
theorem MnF.note {w5 w6 : World} {v' : Value} {gF nF cF i : Nat} {f : Fat} {b : Bool} {y : Int} {x : FH} (h : MnF w wJ gD uF ur e lg mR X vE last s wr) (hJw : w.heap.size ≤ wJ.heap.size) (hF : uF = .slice (some ⟨gF, 0, none⟩) nF cF) (hTy : Typed wr 67 gF) (hLg : w.heap.size ≤ gF) (hG : FGood wr wJ.heap.size x f) (q : Ext wr w5) (hg : w5.grownBy w6 (x.slot b).ownBlock)
 (hnew : FatsOwn (w6.setCell ⟨gF, i * 5 + slotO b, none⟩ v') w.heap.size wJ.heap.size uF (s.fats.modify i fun f => f.push b y)) :
 MnF w wJ gD uF ur e lg mR X vE last ⟨s.evs, s.fats.modify i fun f => f.push b y⟩ (w6.setCell ⟨gF, i * 5 + slotO b, none⟩ v') := by
 have h5 := h.step q
 have hG5 : ∀ b, w5.ownsRow wJ.heap.size 2 1 (x.slot b) (f.slot b).length ((f.slot b).flatMap intV) := fun b => own_ext (hG.row b) q
 have ho := Only.grown hg (own_typed (hG5 b))
 have hT6 : Typed w6 67 gF := (hTy.ext q).kb (ho.kb _ (by decide))
 have ho2 : Only 67 w6 (w6.setCell ⟨gF, i * 5 + slotO b, none⟩ v') := Only.set hT6
 refine ⟨(Ext.grown h5.ext hg (fun q hq => Nat.le_trans hJw (own_lt (hG5 b) q hq))).setCell hLg _, (h5.keep.grown hg (fun q hq => .inr (own_lt (hG5 b) q hq))).set (.inl (.inr (by rw [hF]; rfl))), (h5.doc.only ho (by decide)).only ho2 (by decide), ?_, h.sep, hnew, own_kb (own_kb h5.regs (ho.kb _ (by decide))) (ho2.kb _ (by decide))⟩
 exact (h5.evs.kb (ho.kb _ (by decide)) (ho.kb _ (by decide)) (ho.kb _ (by decide))).kb (ho2.kb _ (by decide)) (ho2.kb _ (by decide)) (ho2.kb _ (by decide))
end
theorem MnF.final {w wJ wr : World} {gD gz : Nat} {uF ur vE : Value} {e : Edl} {lg : ByteArray} {mR : List Reg} {X : Nat → Prop} {last : Int} {s : ConSt} {cs : Array Value} (h : MnF w wJ gD uF ur e lg mR X vE last s wr) (hZ : Blk wr gz 52 cs) (cs' : Array Value) :
 EvsOwn (putB wr gz 52 cs') wJ.heap.size vE s.evs.length s.evs ∧ FatsOwn (putB wr gz 52 cs') w.heap.size wJ.heap.size uF s.fats ∧ (putB wr gz 52 cs').ownsRow w.heap.size 105 7 ur mR.length (mR.flatMap Reg.vals) :=
 ⟨h.evs.kb (KB.put hZ (by decide)) (KB.put hZ (by decide)) (KB.put hZ (by decide)), h.fats.kb (KB.put hZ (by decide)) (KB.put hZ (by decide)), own_kb h.regs (KB.put hZ (by decide))⟩
theorem MnF.weaken {w wJ wr : World} {gD : Nat} {uF ur vE : Value} {e : Edl} {lg : ByteArray} {mR : List Reg} {X : Nat → Prop} {last : Int} {s : ConSt} (h : MnF w wJ gD uF ur e lg mR X vE last s wr) : MnF w wJ gD uF ur e lg mR (fun _ => False) vE last s wr :=
 ⟨h.ext, h.keep, h.doc, h.evs, fun _ _ h => h, h.fats, h.regs⟩
def MnSt (w wJ : World) (gD : Nat) (uF ur : Value) (e : Edl) (lg : ByteArray) (mR : List Reg) (X : Nat → Prop) (s : ConSt) (wr : World) : Prop := ∃ vE, MnF w wJ gD uF ur e lg mR X vE s.evs.length s wr
structure NtJ (base : Nat) (v : Value) (n : Nat) (xs : List Value) (y : Int) (p : Addr) (W : World) (us : List Value) (w' : World) : Prop where
 only : us.length ≤ 2 → Only 2 W w'
 e0 : us.length = 0 → Ext W w'
 e1 : us.length = 1 → Ext W w' ∧ ∃ g, us.getD 0 undef = .slice (some ⟨g, 0, none⟩) 1 1 ∧ Blk w' g 2 #[.int .i64 y]
 e2 : us.length = 2 → ∃ w5, Ext W w5 ∧ w5.grownBy w' v.ownBlock ∧ ((us.getD 1 undef).ownBlock = v.ownBlock ∨ (us.getD 1 undef).ownBlock = some w5.heap.size) ∧ w'.ownsRow base 2 1 (us.getD 1 undef) (n + 1) (xs ++ [.int .i64 y])
 e3 : us.length = 3 → ∃ w5 w6, Ext W w5 ∧ w5.grownBy w6 v.ownBlock ∧ ((us.getD 1 undef).ownBlock = v.ownBlock ∨ (us.getD 1 undef).ownBlock = some w5.heap.size) ∧ w6.ownsRow base 2 1 (us.getD 1 undef) (n + 1) (xs ++ [.int .i64 y]) ∧ w' = w6.setCell p (us.getD 1 undef)
section
variable {base n : Nat} {v : Value} {xs : List Value} {y : Int} {p : Addr} {W w' w2 : World} {u0 u1 u2 : Value}
theorem NtJ.start (W : World) : NtJ base v n xs y p W [] W.drew := ⟨fun _ => Only.ext (Ext.refl W).drew, fun _ => (Ext.refl W).drew, fun h => by simp at h, fun h => by simp at h, fun h => by simp at h⟩
theorem NtJ.build (h : NtJ base v n xs y p W [] w') : NtJ base v n xs y p W ([] ++ [.slice (some ⟨w'.heap.size, 0, none⟩) 1 1]) (w'.alloc (.cells #[.int .i64 y] 2)) :=
 ⟨fun _ => (h.only (by simp)).trans (Only.ext ((Ext.refl w').alloc _)), fun h => by simp at h, fun _ => ⟨(h.e0 rfl).alloc _, ⟨_, rfl, Blk.new w' _ _⟩⟩, fun h => by simp at h, fun h => by simp at h⟩
theorem NtJ.app (h : NtJ base v n xs y p W [u0] w') (hv : ∀ q, v.ownBlock = some q → Typed w' 2 q) (hg : w'.grownBy w2 v.ownBlock) (hloc : u1.ownBlock = v.ownBlock ∨ u1.ownBlock = some w'.heap.size) (ho : w2.ownsRow base 2 1 u1 (n + 1) (xs ++ [.int .i64 y])) : NtJ base v n xs y p W ([u0] ++ [u1]) w2 :=
 ⟨fun _ => (h.only (by simp)).trans (Only.grown hg hv), fun h => by simp at h, fun h => by simp at h, fun _ => ⟨w', (h.e1 rfl).1, hg, hloc, ho⟩, fun h => by simp at h⟩
theorem NtJ.store (h : NtJ base v n xs y p W [u0, u1] w') : NtJ base v n xs y p W ([u0, u1] ++ [u2]) (w'.setCell p u1) := by
 obtain ⟨w5, a, b, c, d⟩ := h.e2 rfl
 exact ⟨fun h => by simp at h, fun h => by simp at h, fun h => by simp at h, fun h => by simp at h, fun _ => ⟨w5, w', a, b, c, d, rfl⟩⟩
end
structure E2K (C : Nat) (cs1 cs2 : Array Value) (W : World) (us : List Value) (w' : World) : Prop where
 only : Only 64 W w'
 nil : us = [] → Ext W w'
 one : ∀ u, us = [u] → ∃ w5, Ext W w5 ∧ w' = putB w5 C 64 cs1
 two : ∀ u u1, us = [u, u1] → ∃ w5, Ext W w5 ∧ w' = putB w5 C 64 cs2
section
variable {C : Nat} {cs0 cs1 cs2 : Array Value} {W w' : World} {u0 u1 : Value}
theorem E2K.start (W : World) : E2K C cs1 cs2 W [] W.drew := ⟨Only.ext (Ext.refl W).drew, fun _ => (Ext.refl W).drew, fun u h => by simp at h, fun u u1 h => by simp at h⟩
theorem E2K.first (h : E2K C cs1 cs2 W [] w') (hB : Blk W C 64 cs0) : E2K C cs1 cs2 W ([] ++ [u0]) (putB w' C 64 cs1) :=
 ⟨(Only.ext (h.nil rfl)).trans (Only.put (hB.ext (h.nil rfl))), fun h => by simp at h, fun u hu => ⟨w', h.nil rfl, rfl⟩, fun u u1 h => by simp at h⟩
theorem E2K.second (h : E2K C cs1 cs2 W [u0] w') (hB : Blk W C 64 cs0) : E2K C cs1 cs2 W ([u0] ++ [u1]) (putB w' C 64 cs2) := by
 obtain ⟨w5, hx, rfl⟩ := h.one u0 rfl
 refine ⟨h.only.trans (Only.put ((hB.ext hx).put cs1)), fun h => by simp at h, fun u h => by simp at h, fun u v e => ⟨w5, hx, by rw [putB_putB]⟩⟩
end
theorem conCut_len {docs : List RDoc} (h : ∀ d ∈ docs, d.doc.evs.length ≤ 400) (least : Int) (s : ConSt) (c : Cut) : (conCut docs least s c).evs.length ≤ s.evs.length + 400 ∧ (conCut docs least s c).fats.length = s.fats.length := by
 unfold conCut
 cases findRd docs c.reel with
 | none => simp
 | some k =>
  have h1 := conEvs_len c least (evsR docs k) (offR docs k) s
  have h2 : (evsR docs k).length ≤ 400 := by
   unfold evsR
   cases hk : docs[k]? with
   | none => simp
   | some d => exact h d (List.mem_of_getElem? hk)
  exact ⟨Nat.le_trans h1.1 (by omega), h1.2⟩
theorem conCuts_len {docs : List RDoc} (h : ∀ d ∈ docs, d.doc.evs.length ≤ 400) (least : Int) : ∀ (l : List Cut) (s : ConSt), (conCuts docs least l s).evs.length ≤ s.evs.length + l.length * 400 ∧ (conCuts docs least l s).fats.length = s.fats.length
 | [], s => by simp [conCuts]
 | c :: l, s => by
  have h1 := conCut_len h least s c
  have h2 := conCuts_len h least l (conCut docs least s c)
  have e : conCuts docs least (c :: l) s = conCuts docs least l (conCut docs least s c) := rfl
  rw [e, List.length_cons, Nat.succ_mul]
  omega
def Mn1Rel (w wJ : World) (gD : Nat) (uF ur : Value) (e : Edl) (lg : ByteArray) (mR : List Reg) (docs : List RDoc) (least : Int) (cuts : List Cut) (s0 : ConSt) (n : Nat) (i : Value) (wr : World) : Prop :=
 ∃ k : Nat, k ≤ n ∧ i = .int .i64 k ∧ MnSt w wJ gD uF ur e lg mR (fun _ => False) (conCuts docs least (cuts.take k) s0) wr
def Mn2Rel (w wJ : World) (gD : Nat) (uF ur : Value) (e : Edl) (lg : ByteArray) (mR : List Reg) (c : Cut) (least : Int) (off : Nat) (evs : List Ev) (s0 : ConSt) (vC : Value) (gc n : Nat) (i : Value) (wr : World) : Prop :=
 ∃ j : Nat, j ≤ n ∧ i = .int .i64 j ∧ MnSt w wJ gD uF ur e lg mR (fun q => vC.ownBlock = some q) (conEvs c least off (evs.take j) s0) wr ∧ EvsOwn wr wJ.heap.size vC n evs ∧ Blk wr gc 91 c.cells
theorem joinC_ok {e : Edl} (h : edlErr e = 0) : ∀ c ∈ joinC e.cuts, c.pc.Ok := by
 intro c hc
 have h1 := join_ok h
 have h2 := (edlErr_ok h1).2.2.2.2.1
 rw [joinE_ok h] at h2
 exact cut_pc_ok (cutsErr_ok h2 c hc).1 (dayOf_bd _ _)
theorem joinC_few {e : Edl} (h : edlErr e = 0) : (joinC e.cuts).length ≤ 64 := by
 have h1 := joinC_len e.cuts e.cuts.length (Nat.le_refl _)
 rw [List.take_length] at h1
 have := (edlErr_ok h).2.2.2.1
 omega
theorem fats_in {e : Edl} {docs : List RDoc} {z j : Nat} {x : RDoc} {y : Ev} (hx : docs[z]? = some x) (hy : x.doc.evs[j]? = some y) : offR docs z + j < (fatsR e docs).length := by
 have h1 := (List.getElem?_eq_some_iff.1 (keys_at hx hy)).1
 have h2 := congrArg List.length (keys_fats e docs)
 rw [List.length_map] at h2
 omega
theorem modify_two {l : List Fat} {i : Nat} {f g : Fat → Fat} : (l.modify i f).modify i g = l.modify i fun x => g (f x) := by
 apply List.ext_getElem?
 intro j
 rw [List.getElem?_modify, List.getElem?_modify, List.getElem?_modify]
 cases l[j]? with
 | none => rfl
 | some x => by_cases h : i = j <;> simp [h]
theorem modify_note (l : List Fat) (i : Nat) (id : Int) (sh : Bool) : (l.modify i fun f => f.note id sh) = if sh = true then (l.modify i fun f => f.push false id).modify i (fun f => f.push true id) else l.modify i fun f => f.push false id := by
 cases sh with
 | false => simp only [note_push]; rfl
 | true => rw [if_pos rfl, modify_two]; simp only [note_push]; rfl
theorem EvsOwn.row {w : World} {L n : Nat} {v : Value} {l : List Ev} (h : EvsOwn w L v n l) : ∃ xs, w.ownsRow L 64 7 v n xs := h.elim fun _ h => ⟨_, h.1⟩
theorem map_notCells {w : World} {B q : Nat} {l : List RDoc} {T : TypeId} (h : MapS w B l q) (k : Typed w T B) : False := by
 obtain ⟨n, D, ⟨es, cl, h1, -⟩, -⟩ := h
 obtain ⟨cur, h2⟩ := k
 rw [h1] at h2
 cases h2
theorem info_evC : (Tryz.prog.info? 64).map (fun i => (i.zero, i.size, i.bytes)) = some (some (.agg #[.int .i64 0, .int .i64 0, .int .i64 0, .string ⟨#[]⟩, .int .u8 0, .string ⟨#[]⟩, .slice none 0 0]), 7, 88) := by kernel_rfl
theorem EGood.as {w : World} {L : Nat} {x : Ev} {A : Option Addr} {n c : Nat} (h : EGood w L (EH.of x A n c) x) (id : Int) (s : Spn) : EGood w L (EH.of (x.as id s) A n c) (x.as id s) := ⟨rfl, h.2.1, h.2.2.1, h.2.2.2⟩
theorem putB_keep {w : World} {g q : Nat} {T : TypeId} {cs : Array Value} (h : q ≠ g) : (putB w g T cs).heap[q]? = w.heap[q]? := by
 unfold putB
 simp only
 rw [Array.getElem?_setIfInBounds_ne (fun e => h e.symm)]
theorem Blk.awayC {w w1 : World} {g : Nat} {t : TypeId} {cs : Array Value} {row : Option Nat} (h : Blk w g t cs) (hg : w.grownBy w1 row) (hne : ∀ q, row = some q → q ≠ g) : Blk w1 g t cs := (hg.block g h.lt (fun e => hne g e.symm rfl)).trans h
def PL (s : ConSt) : Prop := ∀ f ∈ s.fats, f.parts.length ≤ s.evs.length ∧ f.short.length ≤ s.evs.length
theorem PL.step {s : ConSt} (h : PL s) (c : Cut) (least : Int) (i : Nat) (x : Ev) : PL (conStep c least i x s) := by
 unfold conStep
 cases partE c x with
 | none => exact h
 | some p =>
  intro f hf
  obtain ⟨j, hj⟩ := List.getElem?_of_mem hf
  simp only [List.getElem?_modify] at hj
  cases hk : s.fats[j]? with
  | none => rw [hk] at hj; simp at hj
  | some g =>
   have hg := h g (List.mem_of_getElem? hk)
   rw [hk] at hj
   simp only [List.length_append, List.length_singleton]
   by_cases hij : i = j
   · simp [hij] at hj
     subst hj
     unfold Fat.note
     simp only [List.length_append, List.length_singleton]
     refine ⟨by omega, ?_⟩
     split
     · simp; omega
     · omega
   · simp [hij] at hj
     subst hj
     omega
theorem PL.evs {c : Cut} {least : Int} : ∀ {l : List Ev} {i : Nat} {s : ConSt}, PL s → PL (conEvs c least i l s)
 | [], _, _, h => h
 | x :: l, i, s, h => PL.evs (l := l) (i := i + 1) (h.step c least i x)
theorem PL.cuts {docs : List RDoc} {least : Int} : ∀ {l : List Cut} {s : ConSt}, PL s → PL (conCuts docs least l s)
 | [], _, h => h
 | c :: l, s, h => by
  show PL (conCuts docs least l (conCut docs least s c))
  refine PL.cuts ?_
  unfold conCut
  cases findRd docs c.reel with
  | none => exact h
  | some k => exact PL.evs h
theorem PL.start (e : Edl) (docs : List RDoc) : PL ⟨[], fatsR e docs⟩ := fun f hf => by
 obtain ⟨d, -, hf⟩ := List.mem_flatMap.1 hf
 obtain ⟨x, -, rfl⟩ := List.mem_map.1 hf
 simp
theorem info_intC : (Tryz.prog.info? 2).map (fun i => (i.zero, i.size, i.bytes)) = some (some (.int .i64 0), 1, 8) := by kernel_rfl
end
section
open Go.RowKit Go.Shelf Go.Sort
def rgIx (l : List Reg) (g : Reg) : Int := match l.findIdx? (fun x => decide (x = g)) with | some k => (k : Int) | none => -1
theorem rgIx_has (l : List Reg) (g : Reg) : decide (rgIx l g ≥ 0) = decide (g ∈ l) := by
 unfold rgIx
 cases h : l.findIdx? (fun x => decide (x = g)) with
 | none =>
  have := List.findIdx?_eq_none_iff.1 h
  have hg : ¬ g ∈ l := fun hg => by
   have := this g hg
   simp at this
  simp [hg]
 | some k =>
  obtain ⟨hk, h1, -⟩ := List.findIdx?_eq_some_iff_getElem.1 h
  have h1 : l[k] = g := by simpa using h1
  have hg : g ∈ l := by rw [← h1]; exact List.getElem_mem hk
  simp [hg]
theorem rgIx_step {l : List Reg} {k : Nat} {x g : Reg} (hx : l[k]? = some x) (hp : ∀ y ∈ l.take k, y ≠ g) : (x = g → rgIx l g = k) ∧ (x ≠ g → ∀ y ∈ l.take (k + 1), y ≠ g) := by
 obtain ⟨hk, hxk⟩ := List.getElem?_eq_some_iff.1 hx
 refine ⟨fun h => ?_, fun h y hy => ?_⟩
 · have : l.findIdx? (fun x => decide (x = g)) = some k := List.findIdx?_eq_some_iff_getElem.2 ⟨hk, by simp [hxk, h], fun j hj => by
    have := hp l[j] (List.mem_take_iff_getElem.2 ⟨j, by omega, rfl⟩)
    simp [this]⟩
   unfold rgIx
   rw [this]
 · rw [take_snoc' _ _ _ hx] at hy
   rcases List.mem_append.1 hy with hy | hy
   · exact hp y hy
   · simp at hy; subst hy; exact h
theorem rgIx_none {l : List Reg} {g : Reg} (hp : ∀ y ∈ l, y ≠ g) : rgIx l g = -1 := by
 unfold rgIx
 rw [List.findIdx?_eq_none_iff.2 (fun y hy => by simpa using hp y hy)]
def RiRel (w : World) (n : Nat) (l : List Reg) (g : Reg) (i : Value) (wr : World) : Prop := ∃ k : Nat, k ≤ n ∧ i = .int .i64 k ∧ Ext w wr ∧ ∀ y ∈ l.take k, y ≠ g
set_option maxRecDepth 100000 in
set_option maxHeartbeats 4000000 in
theorem RgIndex_any (A : Option Addr) (n c : Nat) (l : List Reg) (g : Reg) (w : World) (hl : RegsAt w A n l) (hn : n ≤ 4611686018427387904) :
 Calls Tryz.prog 166 #[.slice A n c, g.val] w fun e w' => e = .returned (.int .i64 (rgIx l g)) ∧ Ext w w' := by
 have HL := Lib.hid hl
 have HLn := Lib.hid hl.len
 have HX0 := Lib.hid ((Ext.refl w).alloc (.cells #[.string g.name, .int .i64 g.top, .int .i64 g.height, .int .i64 g.left, .int .i64 g.width, .int .u8 g.align, .bool g.bottom] 105))
 have HB0 := Lib.hid (Blk.new w 105 #[.string g.name, .int .i64 g.top, .int .i64 g.height, .int .i64 g.left, .int .i64 g.width, .int .u8 g.align, .bool g.bottom])
 clear hl
 unfold Reg.val
 go_enter Tryz.func166, Tryz.ntmps166
 go_wp2_with fail
 go_loopw [8] (fun i wr => RiRel (w.alloc (.cells #[.string g.name, .int .i64 g.top, .int .i64 g.height, .int .i64 g.left, .int .i64 g.width, .int .u8 g.align, .bool g.bottom] 105)) n l g i wr) (fun i _ => n - (intOf i).toNat)
 case atStart => exact ⟨0, Nat.zero_le _, rfl, Ext.refl _, by simp⟩
 case round =>
  obtain ⟨k, hk, rfl, hx, hp⟩ := hrel
  have HX := Lib.hid hx
  have HP := Lib.hid hp
  have HBg := Lib.hid (HB0.out.ext hx)
  have g0 := HBg.out.cell 0
  have g1 := HBg.out.cell 1
  have g2 := HBg.out.cell 2
  have g3 := HBg.out.cell 3
  have g4 := HBg.out.cell 4
  have g5 := HBg.out.cell 5
  have g6 := HBg.out.cell 6
  simp only [List.getElem?_toArray, List.getElem?_cons_zero, List.getElem?_cons_succ] at g0 g1 g2 g3 g4 g5 g6
  clear hx hp
  by_cases hlt : k < n
  · obtain ⟨b, off, r, rfl, hr, c0, c1, c2, c3, c4, c5, c6⟩ := (HL.out.ext (HX0.out.trans HX.out)).at_ hlt
    have HS := Lib.hid (rgIx_step hr HP.out)
    have hk0 : (0 : Int) ≤ (k : Int) := by omega
    have hk1 : (k : Int) < (n : Int) := by omega
    clear hr
    by_cases hq : r = g
    · have HT := Lib.hid (HS.out.1 hq)
      subst hq
      have he := fun w => eql_reg_yes r w
      unfold Reg.val at he
      go_wp2_with fail
      go_quiet (fail)
      go_wp2_with fail
      go_ret
      exact ⟨ret_int HT.out.symm, (HX0.out.trans HX.out).drewN _⟩
    · have HT := Lib.hid (HS.out.2 hq)
      have he := fun w => eql_reg_no (fun h => hq (Eq.symm h) : ¬ g = r) w
      unfold Reg.val at he
      clear hq
      go_wp2_with fail
      go_quiet (fail)
      go_wp2_with fail
      exact ⟨⟨k + 1, by omega, by go_num, HX.out.drewN _, HT.out⟩, by simp [intOf]; omega⟩
  · have hkn : k = n := by omega
    subst hkn
    have HT : Hid (rgIx l g = -1) := rgIx_none (by have := HP.out; rwa [List.take_of_length_le (by have := HLn.out; omega)] at this)
    go_wp2_with fail
    go_ret
    exact ⟨ret_int HT.out.symm, HX0.out.trans HX.out⟩
set_option maxRecDepth 100000 in
set_option maxHeartbeats 1000000 in
theorem RgContains_any (A : Option Addr) (n c : Nat) (l : List Reg) (g : Reg) (w : World) (hl : RegsAt w A n l) (hn : n ≤ 4611686018427387904) :
 Calls Tryz.prog 102 #[.slice A n c, g.val] w fun e w' => e = .returned (.bool (decide (g ∈ l))) ∧ Ext w w' := by
 have HX0 := Lib.hid ((Ext.refl w).alloc (.cells #[.string g.name, .int .i64 g.top, .int .i64 g.height, .int .i64 g.left, .int .i64 g.width, .int .u8 g.align, .bool g.bottom] 105))
 have HB0 := Lib.hid (Blk.new w 105 #[.string g.name, .int .i64 g.top, .int .i64 g.height, .int .i64 g.left, .int .i64 g.width, .int .u8 g.align, .bool g.bottom])
 have HI := Lib.hid (RgIndex_any A n c l g _ (hl.ext HX0.out) hn)
 have HF := Lib.hid (rgIx_has l g)
 clear hl
 generalize rgIx l g = ix at *
 unfold Reg.val at *
 go_enter Tryz.func102, Tryz.ntmps102
 go_wp2_with (refine wpList_loadB rfl 105 (.tmp 3) rfl w.heap.size 105 _ _ (by exact rfl) (by exact HB0.out) Tryz.underlying105 rfl (by exact info_reg) ?_)
 refine HI.out.mono ?_
 rintro e w1 ⟨rfl, hx⟩
 have HX1 := Lib.hid (HX0.out.trans hx)
 clear hx
 go_wp2_with fail
 go_ret
 exact ⟨ret_bool HF.out, HX1.out⟩
def cmpB (a b : ByteArray) : Int := if Op.bytesLess a.toList b.toList = true then -1 else if Op.bytesLess b.toList a.toList = true then 1 else 0
theorem isNaNs_any (a : ByteArray) (w : World) : Calls Tryz.prog 169 #[.string a] w fun e w' => e = .returned (.bool false) ∧ w = w' := by
 go_enter Tryz.func169, Tryz.ntmps169
 go_wp2
 go_ret
 exact ⟨by simp, rfl⟩
theorem less_gt (a b : ByteArray) : (Op.bytesLess a.toList b.toList || a.toList == b.toList) = !Op.bytesLess b.toList a.toList := by
 rw [bytesLess_eq, bytesLess_eq]
 by_cases h : b.toList < a.toList
 · have h1 : ¬ a.toList < b.toList := fun k => Bs.lt_irrefl _ (Bs.lt_trans h k)
   have h2 : ¬ a.toList = b.toList := fun k => by rw [k] at h; exact Bs.lt_irrefl _ h
   simp [h, h1, h2]
 · rcases Classical.em (a.toList = b.toList) with h1 | h1
   · simp [h, h1]
   · have h2 : a.toList < b.toList := Bs.lt_of_le_of_ne (List.not_lt.1 h) h1
     simp [h, h2]
set_option maxHeartbeats 1000000 in
theorem Compares_any (a b : ByteArray) (w : World) : Calls Tryz.prog 105 #[.string a, .string b] w fun e w' => e = .returned (.int .i64 (cmpB a b)) ∧ w = w' := by
 have HG := Lib.hid (less_gt a b)
 cases h1 : Op.bytesLess a.toList b.toList with
 | true =>
  have HF : Hid (cmpB a b = -1) := by show _ = _; unfold cmpB; rw [if_pos h1]
  go_enter Tryz.func105, Tryz.ntmps105
  go_wp2_with (first | (go_at_call 169; refine (isNaNs_any _ _).mono ?_; rintro e w' ⟨rfl, rfl⟩))
  go_ret
  exact ⟨ret_int HF.out.symm, rfl⟩
 | false =>
  cases h2 : Op.bytesLess b.toList a.toList with
  | true =>
   have HF : Hid (cmpB a b = 1) := by show _ = _; unfold cmpB; rw [h1, if_neg (by decide), if_pos h2]
   have h3 : (a.toList == b.toList) = false := by have := HG.out; rw [h1, h2] at this; simpa using this
   go_enter Tryz.func105, Tryz.ntmps105
   go_wp2_with (first | (go_at_call 169; refine (isNaNs_any _ _).mono ?_; rintro e w' ⟨rfl, rfl⟩))
   go_ret
   exact ⟨ret_int HF.out.symm, rfl⟩
  | false =>
   have HF : Hid (cmpB a b = 0) := by show _ = _; unfold cmpB; rw [h1, h2]; rfl
   have h3 : (a.toList == b.toList) = true := by have := HG.out; rw [h1, h2] at this; simpa using this
   go_enter Tryz.func105, Tryz.ntmps105
   go_wp2_with (first | (go_at_call 169; refine (isNaNs_any _ _).mono ?_; rintro e w' ⟨rfl, rfl⟩))
   go_ret
   exact ⟨ret_int HF.out.symm, rfl⟩
instance : Inhabited Reg := ⟨Reg.zero⟩
def cmpRg (x y : Reg) : Int := cmpB x.name y.name
def ltRg (x y : Reg) : Bool := Op.bytesLess x.name.toList y.name.toList
theorem ltRg_iff (x y : Reg) : ltRg x y = true ↔ nmR x < nmR y := by unfold ltRg nmR; rw [bytesLess_eq]; simp
theorem ltOf_Rg : ltOf cmpRg = ltRg := by
 funext x y
 unfold ltOf cmpRg ltRg cmpB
 cases Op.bytesLess x.name.toList y.name.toList
 · rw [if_neg (by decide)]
   split <;> simp
 · rw [if_pos rfl]; simp
theorem ltRg_swo : SWO ltRg where
 irrefl x := by
  cases h : ltRg x x with
  | false => rfl
  | true => exact absurd ((ltRg_iff x x).1 h) (Bs.lt_irrefl _)
 trans x y z h1 h2 := (ltRg_iff x z).2 (Bs.lt_trans ((ltRg_iff x y).1 h1) ((ltRg_iff y z).1 h2))
 ntrans x y z h1 h2 := by
  have h1 : ¬ nmR x < nmR y := fun h => by rw [(ltRg_iff x y).2 h] at h1; cases h1
  have h2 : ¬ nmR y < nmR z := fun h => by rw [(ltRg_iff y z).2 h] at h2; cases h2
  have h3 : ¬ nmR x < nmR z := leR_trans (x := z) (y := y) (z := x) h2 h1
  cases h : ltRg x z with
  | false => rfl
  | true => exact absurd ((ltRg_iff x z).1 h) h3
theorem cmpRg_enter : ∀ args w, (callFunc 104 args).run Tryz.prog w = .ok (.enter 104 args) w := Go.Proofs.enters_of Tryz.func104 (by kernel_rfl) rfl
set_option maxRecDepth 100000 in
set_option maxHeartbeats 1000000 in
theorem cmpRg_any (x y : Reg) (w : World) : Calls Tryz.prog 104 #[.agg x.vals.toArray, .agg y.vals.toArray] w fun e w' => e = .returned (.int .i64 (cmpRg x y)) ∧ Extd w w' := by
 show Calls Tryz.prog 104 #[.agg #[.string x.name, .int .i64 x.top, .int .i64 x.height, .int .i64 x.left, .int .i64 x.width, .int .u8 x.align, .bool x.bottom], .agg #[.string y.name, .int .i64 y.top, .int .i64 y.height, .int .i64 y.left, .int .i64 y.width, .int .u8 y.align, .bool y.bottom]] w _
 have HX := Lib.hid (((Extd.refl w).alloc (.cells #[.string x.name, .int .i64 x.top, .int .i64 x.height, .int .i64 x.left, .int .i64 x.width, .int .u8 x.align, .bool x.bottom] 105)).alloc (.cells #[.string y.name, .int .i64 y.top, .int .i64 y.height, .int .i64 y.left, .int .i64 y.width, .int .u8 y.align, .bool y.bottom] 105))
 have HC := Lib.hid (fun w' => Compares_any x.name y.name w')
 unfold cmpRg
 generalize cmpB x.name y.name = r at *
 go_enter Tryz.func104, Tryz.ntmps104
 go_wp2_with fail
 refine (HC.out _).mono ?_
 rintro e w1 ⟨rfl, rfl⟩
 go_wp2_with fail
 go_ret
 exact ⟨rfl, HX.out⟩
theorem arr_sortedRg {d : Array Reg} (h : SortedIn ltRg 0 d.size d) : d.toList.Pairwise LeR := by
 refine List.pairwise_iff_getElem.2 fun i j hi hj hij => ?_
 have hi' : i < d.size := by simpa using hi
 have hj' : j < d.size := by simpa using hj
 have := h i j (Nat.zero_le _) hij hj'
 rw [getElem!_pos d j hj', getElem!_pos d i hi'] at this
 intro hc
 have h2 := (ltRg_iff _ _).2 hc
 simp only [Array.getElem_toList] at h2
 rw [h2] at this
 cases this
theorem SortNoneRg (F : Value) (w : World) : Calls Tryz.prog 103 #[.slice none 0 0, F] w fun e w' => e = .returned (.tuple #[]) ∧ w' = w := AnyF.slices_SortFunc_none Tryz.srtReg none 0 F w
theorem SortRg_own {w0 w : World} {L g n c : Nat} {l : List Reg} (hx : Ext w0 w) (hL : w0.heap.size ≤ L) (h1 : w.ownsRow L 105 7 (.slice (some ⟨g, 0, none⟩) n c) n (l.flatMap Reg.vals)) (hl : l.length = n) (hn : n < 4611686018427387904) :
 Calls Tryz.prog 103 #[.slice (some ⟨g, 0, none⟩) n c, .func (.func 104) #[] #[]] w fun e w' => e = .returned (.tuple #[]) ∧ Ext w0 w' ∧ ∃ l' : List Reg, l'.Perm l ∧ l'.Pairwise LeR ∧ w'.ownsRow L 105 7 (.slice (some ⟨g, 0, none⟩) n c) n (l'.flatMap Reg.vals) := by
 have hLg : L ≤ g := own_lt h1 g rfl
 have hg : g < w.heap.size := by
  rcases h1.2 with ⟨hv, -⟩ | ⟨g', cap, cur, hv, -, hb, -⟩
  · cases hv
  · cases hv; exact (Array.getElem?_eq_some_iff.1 hb).1
 have hz : l.toArray.size = n := by simp [hl]
 have hH := own_holds (enc := Reg.vals) (k := 7) (fun _ => rfl) h1 hl
 have hcmp : CmpLays Tryz.prog 104 #[] Reg.vals 7 cmpRg g 0 l.toArray.size w := fun m os dk hs x y => (cmpRg_any x y _).mono fun e w' ⟨he, hx⟩ => ⟨he, hx.grow⟩
 have hcon := AnyQ.slices_SortFunc Tryz.srtReg 7 Tryz.isAgg105 Tryz.sizeOf105 Reg.vals (fun _ => rfl) reg_ones cmpRg (by rw [ltOf_Rg]; exact ltRg_swo) 104 #[] g 0 c l.toArray w cmpRg_enter hcmp hH hg (by rw [hz]; exact hn)
 rw [hz, ltOf_Rg] at hcon
 refine Calls.mono hcon ?_
 rintro e w' ⟨rfl, d', m, os, hp, hs, rfl⟩
 obtain ⟨hsz, -, hperm⟩ := hp
 have hd : d'.size = n := by rw [hsz, hz]
 have e1 : d'.extract 0 n = d' := by rw [← hd]; exact Array.extract_size
 have e2 : l.toArray.extract 0 n = l.toArray := by rw [← hz]; exact Array.extract_size
 rw [e1, e2] at hperm
 have hS : SWK Reg.vals 7 w g 0 d'.toList.toArray (sortWorldK Reg.vals 7 w g 0 m d' os) := ⟨m, os, by simp⟩
 have hO := swk_own (enc := Reg.vals) (fun _ => rfl) h1 hS (by simpa using hd)
 exact ⟨rfl, hx.grown (swk_grown (enc := Reg.vals) (k := 7) (g := g) (l := d'.toList) ⟨m, os, by simp⟩) (fun q hq => by cases hq; omega), d'.toList, by simpa using hperm, arr_sortedRg (by rw [hd]; exact hs), hO⟩
theorem uqR_snoc (l : List Reg) (g : Reg) : uqR (l ++ [g]) = uqStep (uqR l) g := by unfold uqR; rw [List.foldl_append]; rfl
theorem uqR_len : ∀ l : List Reg, (uqR l).length ≤ l.length := by
 have h : ∀ (l o : List Reg), (l.foldl uqStep o).length ≤ o.length + l.length := by
  intro l
  induction l with
  | nil => intro o; simp
  | cons g l ih =>
   intro o
   rw [List.foldl_cons]
   refine Nat.le_trans (ih _) ?_
   unfold uqStep
   split <;> simp <;> omega
 intro l
 have := h l []
 simpa [uqR] using this
theorem allR_take {l : List RDoc} {k : Nat} {d : RDoc} (h : l[k]? = some d) : allR (l.take (k + 1)) = allR (l.take k) ++ d.doc.regs := by
 unfold allR
 rw [take_snoc' _ _ _ h]; simp
theorem own_regs {w : World} {L : Nat} {v : Value} {l : List Reg} (h : w.ownsRow L 105 7 v l.length (l.flatMap Reg.vals)) : ∃ A c, v = .slice A l.length c ∧ l.length ≤ c ∧ RegsAt w A l.length l := by
 obtain ⟨A, c, hv, hc, -, hS, -⟩ := own_sl (f := Reg.vals) (size := 7) (fun _ => rfl) rfl h
 exact ⟨A, c, hv, hc, Sl.change (D := RegC) hS fun b o r hm => regC_cells hm⟩
def Rg1Rel (w : World) (n : Nat) (l : List RDoc) (v i : Value) (wr : World) : Prop :=
 ∃ k : Nat, k ≤ n ∧ i = .int .i64 k ∧ Ext w wr ∧ wr.ownsRow w.heap.size 105 7 v (uqR (allR (l.take k))).length ((uqR (allR (l.take k))).flatMap Reg.vals)
def Rg2Rel (w : World) (m : Nat) (P rs : List Reg) (v i : Value) (wr : World) : Prop :=
 ∃ j : Nat, j ≤ m ∧ i = .int .i64 j ∧ Ext w wr ∧ wr.ownsRow w.heap.size 105 7 v (uqR (P ++ rs.take j)).length ((uqR (P ++ rs.take j)).flatMap Reg.vals)
theorem allR_len : ∀ {l : List RDoc}, (∀ d ∈ l, d.doc.regs.length ≤ 16) → (allR l).length ≤ l.length * 16
 | [], _ => by simp [allR]
 | d :: l, h => by
  have h1 := h d (by simp)
  have h2 := allR_len (l := l) (fun x hx => h x (by simp [hx]))
  have e : allR (d :: l) = d.doc.regs ++ allR l := by unfold allR; rw [List.flatMap_cons]
  rw [e, List.length_append, List.length_cons]
  omega
set_option maxRecDepth 100000 in
set_option maxHeartbeats 8000000 in
theorem Regions_any (A : Option Addr) (n c : Nat) (l : List RDoc) (w : World) (hl : RDocsAt w A n l) (hn : n ≤ 16) (hr16 : ∀ d ∈ l, d.doc.regs.length ≤ 16) :
 Calls Tryz.prog 49 #[.slice A n c] w fun e w' => ∃ (v : Value) (m : List Reg), e = .returned v ∧ m.Perm (uqR (allR l)) ∧ m.Pairwise LeR ∧ w'.ownsRow w.heap.size 105 7 v m.length (m.flatMap Reg.vals) ∧ Ext w w' := by
 have HL := Lib.hid hl
 have HLn := Lib.hid hl.len
 have HR16 := Lib.hid hr16
 clear hl hr16
 go_enter Tryz.func49, Tryz.ntmps49
 go_wp2_with fail
 go_loopw [3, 10] (fun v i wr => Rg1Rel w n l v i wr) (fun _ i _ => n - (intOf i).toNat)
 case atStart => exact ⟨0, Nat.zero_le _, rfl, Ext.refl _, ⟨rfl, .inl ⟨rfl, rfl⟩⟩⟩
 case round =>
  obtain ⟨k, hk, rfl, hx, hown⟩ := hrel
  have HX := Lib.hid hx
  have HO := Lib.hid hown
  have hzr := hx.size
  clear hx hown
  by_cases hlt : k < n
  · obtain ⟨b, off, d, h, rfl, hdk, hat, hsz, c0, c1, c2, c3, c4, c5, c6, c7, c8⟩ := HL.out.at9 hlt
    replace c0 := HX.out.cell c0
    replace c1 := HX.out.cell c1
    replace c2 := HX.out.cell c2
    replace c3 := HX.out.cell c3
    replace c4 := HX.out.cell c4
    replace c5 := HX.out.cell c5
    replace c6 := HX.out.cell c6
    replace c7 := HX.out.cell c7
    replace c8 := HX.out.cell c8
    obtain ⟨ra, rn, rc, ea, en, ec, ca, cn, cc⟩ := h
    have HRg := Lib.hid hat.regs
    have HDk := Lib.hid (allR_take hdk)
    have hr1 := HR16.out d (List.mem_of_getElem? hdk)
    have hP : (allR (l.take k)).length ≤ 256 := by
     have h1 := allR_len (l := l.take k) (fun x hx => HR16.out x (List.mem_of_mem_take hx))
     rw [List.length_take] at h1
     omega
    have hrl := hat.regs.len
    dsimp only at HRg hrl
    have hrn : rn ≤ 16 := by omega
    clear hdk hat hsz
    generalize allR (l.take k) = P at *
    have HBd := Lib.hid (Blk.new wr 58 (d.cells ⟨ra, rn, rc, ea, en, ec, ca, cn, cc⟩))
    have HX1 := Lib.hid (HX.out.alloc (.cells (d.cells ⟨ra, rn, rc, ea, en, ec, ca, cn, cc⟩) 58))
    have HO1 := Lib.hid (HO.out.alloc (.cells (d.cells ⟨ra, rn, rc, ea, en, ec, ca, cn, cc⟩) 58))
    unfold RDoc.cells at HBd HX1 HO1
    dsimp only at HBd HX1 HO1
    go_upto_region 5 with fail
    obtain ⟨gx, hgx⟩ : ∃ gx, gx = wr.heap.size := ⟨_, rfl⟩
    rw [← hgx] at HBd ⊢
    obtain ⟨w1, hw1⟩ : ∃ w1, w1 = wr.alloc (.cells #[.string d.reel, .string d.doc.title, .string d.doc.lang, .int .u8 d.doc.rate, .bool d.doc.drop, .int .i64 d.doc.last, .slice ra rn rc, .slice ea en ec, .slice ca cn cc] 58) := ⟨_, rfl⟩
    rw [← hw1] at HBd HX1 HO1 ⊢
    clear hw1 hgx c0 c1 c2 c3 c4 c5 c6 c7 c8 HO
    have b6 := HBd.out.cell 6
    simp only [List.getElem?_toArray, List.getElem?_cons_zero, List.getElem?_cons_succ] at b6
    go_wp2_with fail
    clear b6
    go_loopw [3, 18] (fun v i wq => Rg2Rel w rn P d.doc.regs v i wq) (fun _ i _ => rn - (intOf i).toNat)
    case atStart => exact ⟨0, Nat.zero_le _, rfl, HX1.out, by simpa using HO1.out⟩
    case round =>
     obtain ⟨j, hj, rfl, hxq, hown⟩ := hrel
     have HXq := Lib.hid hxq
     have HOq := Lib.hid hown
     have hzq := hxq.size
     have hql : (uqR (P ++ d.doc.regs.take j)).length ≤ 256 + j := by have := uqR_len (P ++ d.doc.regs.take j); rw [List.length_append, List.length_take] at this; omega
     clear hxq hown
     by_cases hjt : j < rn
     · obtain ⟨b2, off2, r, rfl, hrk, d0, d1, d2, d3, d4, d5, d6⟩ := (HRg.out.ext HXq.out).at_ hjt
       have HT : Hid (uqR (P ++ d.doc.regs.take (j + 1)) = uqStep (uqR (P ++ d.doc.regs.take j)) r) := by show _ = _; rw [take_snoc' _ _ _ hrk, ← List.append_assoc, uqR_snoc]
       clear hrk
       generalize uqR (P ++ d.doc.regs.take j) = os at *
       have HBr := Lib.hid (Blk.new wr 105 #[.string r.name, .int .i64 r.top, .int .i64 r.height, .int .i64 r.left, .int .i64 r.width, .int .u8 r.align, .bool r.bottom])
       have HXr := Lib.hid ((Ext.refl wr).alloc (.cells #[.string r.name, .int .i64 r.top, .int .i64 r.height, .int .i64 r.left, .int .i64 r.width, .int .u8 r.align, .bool r.bottom] 105))
       have HO3 := Lib.hid (own_ext HOq.out HXr.out)
       obtain ⟨A', c', rfl, hc', hRA⟩ := own_regs HO3.out
       have HC := Lib.hid (RgContains_any A' os.length c' os r _ hRA (by omega))
       clear hRA
       unfold Reg.val at HC
       go_wp2_with (refine wpList_loadB rfl 105 (.tmp 7) rfl wr.heap.size 105 _ _ (by exact rfl) (by exact HBr.out) Tryz.underlying105 rfl (by exact info_reg) ?_)
       refine HC.out.mono ?_
       rintro e w4 ⟨rfl, hx4⟩
       have HX4 := Lib.hid (HXr.out.trans hx4)
       have HB4 := Lib.hid (HBr.out.ext hx4)
       have HO4 := Lib.hid (own_ext HO3.out hx4)
       have hz4 := HX4.out.size
       clear hx4 HC
       by_cases hin : r ∈ os
       · have e1 : decide (r ∈ os) = true := by simpa using hin
         unfold uqStep at HT
         rw [if_pos hin] at HT
         clear hin
         go_wp2_with fail
         exact ⟨⟨j + 1, by omega, by go_num, HXq.out.trans HX4.out, by rw [HT.out]; exact HO4.out⟩, by simp [intOf]; omega⟩
       · have e1 : decide (r ∈ os) = false := by simpa using hin
         unfold uqStep at HT
         rw [if_neg hin] at HT
         clear hin
         go_wp2_with (first | (refine wpList_loadB rfl 105 (.tmp 7) rfl wr.heap.size 105 _ _ (by exact rfl) (by exact HB4.out) Tryz.underlying105 rfl (by exact info_reg) ?_) | (at_builtin; refine wpList_append1 rfl (.tmp 26) (.tmp 28) 48 rfl info_regI Tryz.underlying48 rfl (by decide) (HO4.out.alloc _) (by exact rfl) w4.heap.size _ (by exact rfl) (by exact Blk.new' rfl) (by exact rfl) (by simp [Value.oneCell']) (by omega) (by simp [maxLen] <;> omega) (by first | omega | (simp; omega) | simp) ?_; intro v5 w5 hown5 hgr; have HO5 := Lib.hid hown5; have HX5 := Lib.hid (Ext.grown ((HXq.out.trans HX4.out).alloc _) hgr (fun q hq => own_lt HO4.out q hq)); clear hown5 hgr))
         exact ⟨⟨j + 1, by omega, by go_num, HX5.out, by rw [HT.out, List.length_append, List.flatMap_append]; exact HO5.out⟩, by simp [intOf]; omega⟩
     · have hjm : j = rn := by omega
       subst hjm
       have HT : Hid (uqR (P ++ d.doc.regs.take j) = uqR (allR (l.take (k + 1)))) := by show _ = _; rw [List.take_of_length_le (by omega), HDk.out]
       rw [HT.out] at HOq
       go_wp2_with fail
       exact ⟨⟨k + 1, by omega, by go_num, HXq.out, HOq.out⟩, by simp [intOf]; omega⟩
  · have hkn : k = n := by omega
    subst hkn
    have HT : Hid (uqR (allR (l.take k)) = uqR (allR l)) := by show _ = _; rw [List.take_of_length_le (by have := HLn.out; omega)]
    have hul : (uqR (allR l)).length ≤ 256 := by
     have h1 := allR_len (l := l) (fun x hx => HR16.out x hx)
     have h2 := uqR_len (allR l)
     have := HLn.out
     omega
    rw [HT.out] at HO
    obtain ⟨os, hos⟩ : ∃ os, os = uqR (allR l) := ⟨_, rfl⟩
    rw [← hos] at HO hul
    have HOs := Lib.hid hos
    clear hos
    rcases HO.out.2 with ⟨hv, h0⟩ | ⟨g, cap, cur, hv, -⟩
    · have HNil := Lib.hid (List.length_eq_zero_iff.1 h0)
      subst hv
      clear hul h0
      go_wp2_with fail
      refine (SortNoneRg _ _).mono ?_
      rintro e w2 ⟨rfl, rfl⟩
      go_wp2_with fail
      go_ret
      exact ⟨_, [], rfl, by rw [← HOs.out, HNil.out], List.Pairwise.nil, ⟨rfl, .inl ⟨rfl, rfl⟩⟩, HX.out⟩
    · subst hv
      have HSo := Lib.hid (SortRg_own HX.out (Nat.le_refl _) HO.out rfl (by omega))
      go_wp2_with fail
      refine HSo.out.mono ?_
      rintro e w2 ⟨rfl, hx2, m, hp, hs, ho⟩
      have HR := Lib.hid (And.intro hp (And.intro hs (And.intro ho hx2)))
      have hml : m.length = os.length := hp.length_eq
      clear hp hs ho hx2 HSo
      go_wp2_with fail
      go_ret
      exact ⟨_, m, rfl, by rw [← HOs.out]; exact HR.out.1, HR.out.2.1, by rw [hml]; exact HR.out.2.2.1, HR.out.2.2.2⟩
end
end Go.Proofs.YtablhmobekmflaaGreatDoor