/- Texts laid together. -/
import Derived.Test.YtbmblnhfmpolbaaGreatDoorTm14
import Derived.Test.YtbmblnhfmpolbaaGreatDoorTm16
set_option linter.unusedVariables false
set_option linter.unusedSimpArgs false
namespace Go.Proofs.YtbmblnhfmpolbaaGreatDoor
section
theorem escB_lenP (b : UInt8) : (escB b).length ≤ 6 := by unfold escB; (repeat' split) <;> simp
theorem esc_lenP (l : List UInt8) : (esc l).length ≤ l.length * 6 := flatMap_len_le escB 6 l (fun b _ => escB_lenP b)
def ndW (x : Nd) : Nat := 6 * x.text.size + 2 * x.name.size + 8 + (x.attrs.map fun a => 4 + a.1.size + 6 * a.2.size).sum
theorem attrsL_len : ∀ l : List (ByteArray × ByteArray), (l.flatMap attrL).length ≤ (l.map fun a => 4 + a.1.size + 6 * a.2.size).sum
 | [] => by simp
 | a :: l => by
  have h1 := attrsL_len l
  have h2 := esc_lenP a.2.data.toList
  rw [size_toList] at h2
  rw [List.flatMap_cons, List.length_append, List.map_cons, List.sum_cons]
  have h3 : (attrL a).length ≤ 4 + a.1.size + 6 * a.2.size := by
   unfold attrL
   simp only [List.length_cons, List.length_append, List.length_nil, size_toList]
   omega
  omega
def stW (st : List ByteArray) : Nat := (st.map fun n => n.size + 3).sum
theorem stW_append (a b : List ByteArray) : stW (a ++ b) = stW a + stW b := by simp [stW]
theorem fins_len : ∀ st : List ByteArray, (tkBytes (st.map Tk.fin)).length = stW st
 | [] => rfl
 | n :: st => by
  have h := fins_len st
  show ((Tk.fin n).bytes ++ tkBytes (st.map Tk.fin)).length = _
  rw [List.length_append, h]
  simp only [Tk.bytes, List.length_append, List.length_cons, List.length_nil, size_toList, stW, List.map_cons, List.sum_cons]
  omega
theorem stW_reverse (st : List ByteArray) : stW st.reverse = stW st := by unfold stW; rw [List.map_reverse, List.sum_reverse]
theorem stW_split (st : List ByteArray) (k : Nat) : stW (st.take k) + stW (st.drop k) = stW st := by rw [← stW_append, List.take_append_drop]
theorem toks_len : ∀ (l : List Nd) (st : List ByteArray), (tkBytes (toks st l)).length ≤ stW st + (l.map ndW).sum
 | [], st => by
  show (tkBytes (st.reverse.map Tk.fin)).length ≤ _
  rw [fins_len, stW_reverse]
  omega
 | x :: l, st => by
  have ih := toks_len l (st.take x.depth ++ openB x (moreB x l))
  have h1 := fins_len (st.drop x.depth).reverse
  rw [stW_reverse] at h1
  have h2 := stW_split st x.depth
  rw [stW_append] at ih
  have e : tkBytes (toks st (x :: l)) = tkBytes ((st.drop x.depth).reverse.map Tk.fin) ++ ((ndTok x (moreB x l)).bytes ++ tkBytes (toks (st.take x.depth ++ openB x (moreB x l)) l)) := by
   simp [toks, tkBytes, List.flatMap_append]
  have h3 : (ndTok x (moreB x l)).bytes.length + stW (openB x (moreB x l)) ≤ ndW x := by
   have ha := attrsL_len x.attrs
   unfold ndTok openB ndW
   by_cases hn : x.name.size = 0
   · rw [if_pos hn, if_neg (by simp [hn])]
     have := esc_lenP x.text.data.toList
     rw [size_toList] at this
     simp only [Tk.bytes, stW, List.map_nil, List.sum_nil]
     omega
   · rw [if_neg hn]
     cases hm : moreB x l
     · rw [if_neg (by simp), if_neg (by simp)]
       simp only [Tk.bytes, stW, List.map_nil, List.sum_nil, List.length_cons, List.length_append, List.length_nil, size_toList]
       omega
     · rw [if_pos rfl, if_pos ⟨hn, rfl⟩]
       simp only [Tk.bytes, stW, List.map_cons, List.map_nil, List.sum_cons, List.sum_nil, List.length_cons, List.length_append, List.length_nil, size_toList]
       omega
  rw [e, List.length_append, List.length_append, h1, List.map_cons, List.sum_cons]
  omega
theorem sum_le {α : Type} (f : α → Nat) (c : Nat) : ∀ l : List α, (∀ x ∈ l, f x ≤ c) → (l.map f).sum ≤ l.length * c
 | [], _ => by simp
 | x :: l, h => by
  have h1 := h x (List.mem_cons_self ..)
  have h2 := sum_le f c l fun y hy => h y (List.mem_cons_of_mem _ hy)
  rw [List.map_cons, List.sum_cons, List.length_cons, Nat.succ_mul]
  omega
structure NdFew (x : Nd) : Prop where
 text : x.text.size ≤ 1048576
 name : x.name.size ≤ 32
 few : x.attrs.length ≤ 16
 attrs : ∀ a ∈ x.attrs, a.1.size ≤ 32 ∧ a.2.size ≤ 1048576
theorem NdFew.w {x : Nd} (h : NdFew x) : ndW x ≤ 113248768 := by
 have h1 := sum_le (fun a : ByteArray × ByteArray => 4 + a.1.size + 6 * a.2.size) 6291492 x.attrs fun a ha => by have := h.attrs a ha; omega
 have h2 := h.text
 have h3 := h.name
 have h4 := h.few
 have h5 : x.attrs.length * 6291492 ≤ 16 * 6291492 := Nat.mul_le_mul_right _ h4
 unfold ndW
 omega
theorem print_len {l : List Nd} (h : ∀ x ∈ l, NdFew x) (hl : l.length ≤ 8192) : (printL l).length ≤ 1099511627776 := by
 have h1 := toks_len l []
 have h2 := sum_le ndW 113248768 l fun x hx => (h x hx).w
 have h3 : l.length * 113248768 ≤ 8192 * 113248768 := Nat.mul_le_mul_right _ hl
 unfold printL
 have : stW [] = 0 := rfl
 omega
structure DocFew (d : Doc) : Prop where
 title : d.title.size ≤ 1048576
 lang : d.lang.size ≤ 1048576
 regs : ∀ r ∈ d.regs, r.name.size ≤ 1048576
 evs : ∀ e ∈ d.evs, e.region.size ≤ 1048576 ∧ e.speaker.size ≤ 1048576 ∧ ∀ r ∈ e.rows, ∀ x ∈ r, x.text.size ≤ 1048576 ∧ x.ruby.size ≤ 1048576
theorem decS_few {n : Int} (h : 0 ≤ n) (h1 : n ≤ 1099511627776) : (decS n).size ≤ 32 := by
 have hl : (decS n).data.toList = Lib.decDigits n.toNat := by
  unfold decS Lib.itoa
  rw [if_neg (by omega)]
 have hsz : (decS n).size = Lib.nDigits n.toNat := by rw [← size_toList, hl, Lib.decDigits_length]
 have : ∀ m : Nat, ∀ u : Nat, u < 10 ^ (m + 1) → Lib.nDigits u ≤ m + 1 := by
  intro m
  induction m with
  | zero => intro u hu; rw [Lib.nDigits_small (by omega)]; omega
  | succ m ih =>
   intro u hu
   by_cases h : u < 10
   · rw [Lib.nDigits_small h]; omega
   · rw [Lib.nDigits_big h]
     have := ih (u / 10) (by rw [Nat.pow_succ] at hu; omega)
     omega
 have := this 12 n.toNat (by omega)
 omega
theorem frS_few {n : Int} (h : 0 ≤ n) (h1 : n ≤ 5184000) : (frS n).size ≤ 64 := by
 have := decS_few h (show n ≤ 1099511627776 by omega)
 unfold frS
 rw [ByteArray.size_append]
 have : sF.size = 1 := rfl
 omega
theorem colorS_few (c : Int) : (colorS c).size ≤ 32 := by unfold colorS; (repeat' split) <;> decide
theorem alignS_few (c : Int) : (alignS c).size ≤ 32 := by unfold alignS; (repeat' split) <;> decide
theorem kindS_few (c : Int) : (kindS c).size ≤ 32 := by unfold kindS; (repeat' split) <;> decide
theorem rName_few (c : Int) : (rName c).size ≤ 32 := by unfold rName; (repeat' split) <;> decide
theorem flagS_few (b : Bool) : (flagS b).size ≤ 32 := by cases b <;> decide
theorem anchorS_few (b : Bool) : (anchorS b).size ≤ 32 := by cases b <;> decide
theorem elN_few {n : ByteArray} {al : List (ByteArray × ByteArray)} {k : Nat} (hn : n.size ≤ 32) (hl : al.length ≤ 16) (h : ∀ a ∈ al, a.1.size ≤ 32 ∧ a.2.size ≤ 1048576) : NdFew (elN n al k) :=
 ⟨by show 0 ≤ 1048576; decide, hn, Nat.le_trans (List.length_filter_le ..) hl, fun a ha => h a (List.mem_filter.1 ha).1⟩
theorem nodes_small {d : Doc} (h : TmOk d) (hf : DocFew d) : ∀ x ∈ nodesL d, NdFew x := by
 intro x hx
 unfold nodesL at hx
 rcases List.mem_cons.1 hx with rfl | hx
 · refine elN_few (by decide) (by show 5 ≤ 16; decide) fun a ha => ?_
   simp only [ttA, List.mem_cons, List.not_mem_nil, or_false] at ha
   rcases ha with rfl | rfl | rfl | rfl | rfl
   · exact ⟨by dsimp only; decide, hf.title⟩
   · exact ⟨by dsimp only; decide, hf.lang⟩
   · exact ⟨by dsimp only; decide, by have := rName_few d.rate; dsimp only; omega⟩
   · exact ⟨by dsimp only; decide, by have := flagS_few d.drop; dsimp only; omega⟩
   · exact ⟨by dsimp only; decide, by have := decS_few h.last.1 h.last.2; dsimp only; omega⟩
 rcases List.mem_append.1 hx with hx | hx
 · obtain ⟨r, hr, rfl⟩ := List.mem_map.1 hx
   have hk := h.regs r hr
   refine elN_few (by decide) (by show 7 ≤ 16; decide) fun a ha => ?_
   simp only [regA, List.mem_cons, List.not_mem_nil, or_false] at ha
   rcases ha with rfl | rfl | rfl | rfl | rfl | rfl | rfl
   · exact ⟨by dsimp only; decide, hf.regs r hr⟩
   · exact ⟨by dsimp only; decide, by have := decS_few hk.top.1 (by have := hk.top.2; omega); dsimp only; omega⟩
   · exact ⟨by dsimp only; decide, by have := decS_few (n := r.height) (by have := hk.height.1; omega) (by have := hk.height.2; omega); dsimp only; omega⟩
   · exact ⟨by dsimp only; decide, by have := decS_few hk.left.1 (by have := hk.left.2; omega); dsimp only; omega⟩
   · exact ⟨by dsimp only; decide, by have := decS_few (n := r.width) (by have := hk.width.1; omega) (by have := hk.width.2; omega); dsimp only; omega⟩
   · exact ⟨by dsimp only; decide, by have := alignS_few r.align; dsimp only; omega⟩
   · exact ⟨by dsimp only; decide, by have := anchorS_few r.bottom; dsimp only; omega⟩
 · obtain ⟨e, he, hx⟩ := List.mem_flatMap.1 hx
   have hk := h.evs e he
   have hs := hf.evs e he
   rcases List.mem_cons.1 hx with rfl | hx
   · refine elN_few (by decide) (by show 6 ≤ 16; decide) fun a ha => ?_
     simp only [evA, List.mem_cons, List.not_mem_nil, or_false] at ha
     rcases ha with rfl | rfl | rfl | rfl | rfl | rfl
     · exact ⟨by dsimp only; decide, by have := decS_few (n := e.id) (by have := hk.id.1; omega) hk.id.2; dsimp only; omega⟩
     · exact ⟨by dsimp only; decide, by have := frS_few hk.inn.1 hk.inn.2; dsimp only; omega⟩
     · exact ⟨by dsimp only; decide, by have := frS_few hk.out.1 hk.out.2; dsimp only; omega⟩
     · exact ⟨by dsimp only; decide, hs.1⟩
     · exact ⟨by dsimp only; decide, by have := kindS_few e.kind; dsimp only; omega⟩
     · exact ⟨by dsimp only; decide, hs.2.1⟩
   · obtain ⟨r, hr, hx⟩ := List.mem_flatMap.1 hx
     rcases List.mem_cons.1 hx with rfl | hx
     · exact elN_few (by decide) (by decide) fun a ha => by simp at ha
     · obtain ⟨y, hy, hx⟩ := List.mem_flatMap.1 hx
       have hz := hs.2.2 r hr y hy
       simp only [List.mem_cons, List.not_mem_nil, or_false] at hx
       rcases hx with rfl | rfl
       · refine elN_few (by decide) (by show 4 ≤ 16; decide) fun a ha => ?_
         simp only [runA, List.mem_cons, List.not_mem_nil, or_false] at ha
         rcases ha with rfl | rfl | rfl | rfl
         · exact ⟨by dsimp only; decide, by have := colorS_few y.color; dsimp only; omega⟩
         · exact ⟨by dsimp only; decide, by have := flagS_few y.italic; dsimp only; omega⟩
         · exact ⟨by dsimp only; decide, by have := flagS_few y.under; dsimp only; omega⟩
         · exact ⟨by dsimp only; decide, hz.2⟩
       · exact ⟨hz.1, by show 0 ≤ 32; decide, by show 0 ≤ 16; decide, fun a ha => by simp [txtN] at ha⟩
end
section
open Go.RowKit
def AttrsK (w : World) (A : Option Addr) (m : Nat) (al : List (ByteArray × ByteArray)) : Prop := ∀ w1, KB 69 w w1 → AttrsAt w1 A m al
theorem AttrsK.at_ {w : World} {A : Option Addr} {m : Nat} {al : List (ByteArray × ByteArray)} (h : AttrsK w A m al) : AttrsAt w A m al := h w (KB.refl w)
theorem AttrsK.kb {w w1 : World} {A : Option Addr} {m : Nat} {al : List (ByteArray × ByteArray)} (h : AttrsK w A m al) (k : KB 69 w w1) : AttrsK w1 A m al := fun w2 k2 => h w2 (k.trans k2)
theorem AttrsK.of_own {w : World} {L m c : Nat} {A : Option Addr} {al : List (ByteArray × ByteArray)} (h : w.ownsRow L 69 2 (.slice A m c) al.length (al.flatMap attrVs)) : AttrsK w A m al := fun w1 k => by
 obtain ⟨A', c', hv, -, -, hsl, -⟩ := own_sl (f := attrVs) (size := 2) (fun _ => rfl) rfl (own_kbX h k)
 cases hv
 exact hsl
def VlAt (w : World) (g : Nat) (nm tx : ByteArray) (al : List (ByteArray × ByteArray)) : Prop := ∃ A m c dep, Blk w g 146 #[.string nm, .string tx, .slice A m c, .int .i64 dep, .int .i64 0] ∧ AttrsK w A m al ∧ m ≤ 16
section
variable {w w1 : World} {g : Nat} {nm tx : ByteArray} {al : List (ByteArray × ByteArray)}
theorem VlAt.ext (h : VlAt w g nm tx al) (k : Ext w w1) : VlAt w1 g nm tx al := by
 obtain ⟨A, m, c, dep, h1, h2, h3⟩ := h
 exact ⟨A, m, c, dep, h1.ext k, h2.kb (KB.ext k), h3⟩
end
theorem VlAt.kbv {w w1 : World} {g : Nat} {nm tx : ByteArray} {al : List (ByteArray × ByteArray)} (h : VlAt w g nm tx al) (k1 : KB 146 w w1) (k2 : KB 69 w w1) : VlAt w1 g nm tx al := by
 obtain ⟨A, m, c, dep, h1, h2, h3⟩ := h
 exact ⟨A, m, c, dep, k1 g _ h1, h2.kb k2, h3⟩
theorem str_eq (x y : ByteArray) : (x.toList == y.toList) = decide (x = y) := by
 rw [ByteArray.toList_eq, ByteArray.toList_eq]
 by_cases h : x = y
 · subst h; simp
 · rw [decide_eq_false h]
   rw [beq_eq_false_iff_ne]
   intro e
   exact h (ByteArray.ext (Array.ext' e))
theorem str_eqF {x y : ByteArray} (h : x ≠ y) : (x.toList == y.toList) = false := by rw [str_eq, decide_eq_false h]
theorem str_eqT {x y : ByteArray} (h : x = y) : (x.toList == y.toList) = true := by rw [str_eq, decide_eq_true h]
theorem attrV_at {al : List (ByteArray × ByteArray)} {k : Nat} {a : ByteArray × ByteArray} {s : ByteArray} (h : al[k]? = some a) (hn : ∀ x ∈ al.take k, x.1 ≠ s) (he : a.1 = s) : attrV al s = a.2 := by
 have e : al = al.take k ++ a :: al.drop (k + 1) := by
  have hk := (List.getElem?_eq_some_iff.1 h).1
  have ha := (List.getElem?_eq_some_iff.1 h).2
  rw [← ha, ← List.drop_eq_getElem_cons hk, List.take_append_drop]
 unfold attrV
 rw [e, List.find?_append, List.find?_eq_none.2 (fun x hx => by simpa using hn x hx)]
 simp [he]
theorem attrV_no {al : List (ByteArray × ByteArray)} {s : ByteArray} (hn : ∀ x ∈ al, x.1 ≠ s) : attrV al s = ByteArray.empty := by
 unfold attrV
 rw [List.find?_eq_none.2 (fun x hx => by simpa using hn x hx)]
 rfl
def TvRel (w : World) (al : List (ByteArray × ByteArray)) (s : ByteArray) (m : Nat) (v : Value) (wr : World) : Prop := ∃ k : Nat, k ≤ m ∧ v = .int .i64 k ∧ Ext w wr ∧ ∀ x ∈ al.take k, x.1 ≠ s
theorem take_ne {al : List (ByteArray × ByteArray)} {k : Nat} {a : ByteArray × ByteArray} {s : ByteArray} (h : al[k]? = some a) (hn : ∀ x ∈ al.take k, x.1 ≠ s) (he : a.1 ≠ s) : ∀ x ∈ al.take (k + 1), x.1 ≠ s := by
 rw [take_snoc' al k a h]
 intro x hx
 rcases List.mem_append.1 hx with hx | hx
 · exact hn x hx
 · rw [List.mem_singleton.1 hx]; exact he
set_option maxHeartbeats 2000000 in
set_option maxRecDepth 100000 in
theorem vtext_any (g : Nat) (nm tx : ByteArray) (al : List (ByteArray × ByteArray)) (s : ByteArray) (w : World) (hv : VlAt w g nm tx al) :
 Calls Tryz.prog 62 #[.pointer (some ⟨g, 0, none⟩), .string s] w fun e w' => e = .returned (.string (attrV al s)) ∧ Ext w w' := by
 obtain ⟨A, m, c, dep, hB, hA, hm⟩ := hv
 have HA := Lib.hid hA.at_
 have hc := fun o => hB.cell o
 clear hB hA
 go_enter Tryz.func62, Tryz.ntmps62
 go_wp2_with fail
 clear hc
 go_loopw [13] (fun v wr => TvRel w al s m v wr) (fun v _ => m - (intOf v).toNat)
 case atStart => exact ⟨0, Nat.zero_le _, rfl, Ext.refl w, fun x hx => by simp at hx⟩
 case round =>
  obtain ⟨k, hk, rfl, hx, hn⟩ := hrel
  have HX := Lib.hid hx
  have HN := Lib.hid hn
  clear hx hn
  by_cases hlt : k < m
  · obtain ⟨ga, offa, aa, rfl, ha, ca0, ca1⟩ := attr_at (HA.out.ext HX.out) hlt
    have HAt := Lib.hid ha
    obtain ⟨a1, a2⟩ := aa
    dsimp only at ca0 ca1
    have HBa := Lib.hid (Blk.new wr 69 #[.string a1, .string a2])
    have hcb := fun o => HBa.out.cell o
    clear ha
    by_cases he : a1 = s
    · have hq := str_eqT he
      have HV := Lib.hid (attrV_at HAt.out HN.out he)
      clear he
      go_wp2_with fail
      go_ret
      exact ⟨by rw [HV.out]; rfl, HX.out.alloc _⟩
    · have hq := str_eqF he
      have HNe := Lib.hid (take_ne HAt.out HN.out he)
      clear he
      go_wp2_with fail
      exact ⟨⟨k + 1, by omega, by go_num, HX.out.alloc _, HNe.out⟩, by simp only [intOf]; omega⟩
  · have ek : k = m := by omega
    subst ek
    have HV := Lib.hid (attrV_no (s := s) (al := al) (fun x hx => HN.out x (by rw [List.take_of_length_le (by rw [HA.out.len]; exact Nat.le_refl _)]; exact hx)))
    go_wp2_with fail
    go_ret
    exact ⟨by rw [HV.out]; rfl, HX.out⟩
set_option maxHeartbeats 1000000 in
theorem vfail_ok (g : Nat) (nm tx : ByteArray) (al : List (ByteArray × ByteArray)) (w : World) (hv : VlAt w g nm tx al) :
 Calls Tryz.prog 64 #[.pointer (some ⟨g, 0, none⟩), .int .i64 0] w fun e w' => e = .returned (.tuple #[]) ∧ Ext w w' := by
 obtain ⟨A, m, c, dep, hB, hA, hm⟩ := hv
 have HB := Lib.hid hB
 have hc := fun o => hB.cell o
 have hf := fun o => hB.frozen o
 have hs := fun u => setCell_put hB 4 u
 have HS : Hid (putB w g 146 #[.string nm, .string tx, .slice A m c, .int .i64 dep, .int .i64 0] = w) := putB_same hB
 clear hB hA
 go_enter Tryz.func64, Tryz.ntmps64
 go_wp2_with fail
 go_end0
 exact ⟨rfl, by first | exact HS.out ▸ Ext.refl _ | (rw [HS.out]; exact Ext.refl _)⟩
theorem ext_freeze {w w1 : World} (h : Ext w w1) {p : Addr} (n : Nat) (hp : w.heap.size ≤ p.block) : Ext w (w1.freeze p n) := by
 unfold World.freeze
 split
 · exact h
 · refine ⟨h.os, h.tape, h.output, by simpa using h.size, fun k hk => ?_⟩
   simp only
   rw [Array.getElem?_modify, if_neg (by omega)]
   exact h.block k hk
theorem ext_bytes (w : World) (e : TypeId) (s : ByteArray) : Ext w (Lib.bytesWorld w e s) := ext_freeze ((Ext.refl w).drew.alloc _) _ (Nat.le_refl _)
theorem drop_get_ (s : ByteArray) (k : Nat) (h : k < s.size) : s.data.toList[k]? = some s[k] := by
 have := drop_get s k h
 rw [← List.head?_drop, this]
 rfl
structure DigS (s : ByteArray) : Prop where
 some_ : 0 < s.size
 few : s.size ≤ 4294967296
 dig : ∀ (k : Nat) (h : k < s.size), 48 ≤ s[k].toNat ∧ s[k].toNat ≤ 57
 zero : ∀ h : 0 < s.size, s[0].toNat = 48 → s.size = 1
theorem decS_list {n : Int} (h : 0 ≤ n) : (decS n).data.toList = Lib.decDigits n.toNat := by
 unfold decS Lib.itoa
 rw [if_neg (by omega)]
theorem decS_dig {n : Int} (h : 0 ≤ n) (h1 : n ≤ 1099511627776) : DigS (decS n) := by
 have hl := decS_list h
 have hsz : (decS n).size = Lib.nDigits n.toNat := by rw [← size_toList, hl, Lib.decDigits_length]
 have hp := Lib.nDigits_pos n.toNat
 refine ⟨by omega, ?_, fun k hk => ?_, fun hk e => ?_⟩
 · have : ∀ m : Nat, ∀ u : Nat, u < 10 ^ (m + 1) → Lib.nDigits u ≤ m + 1 := by
    intro m
    induction m with
    | zero => intro u hu; rw [Lib.nDigits_small (by omega)]; omega
    | succ m ih =>
     intro u hu
     by_cases h : u < 10
     · rw [Lib.nDigits_small h]; omega
     · rw [Lib.nDigits_big h]
       have := ih (u / 10) (by rw [Nat.pow_succ] at hu; omega)
       omega
   have := this 12 n.toNat (by omega)
   omega
 · refine digits_all n.toNat _ ?_
   rw [← hl]
   exact List.mem_of_getElem? (drop_get_ (decS n) k hk)
 · obtain ⟨c, r, h2, -, -, h5⟩ := digits_head n.toNat
   have h6 := drop_get_ (decS n) 0 hk
   rw [hl, h2] at h6
   simp only [List.getElem?_cons_zero, Option.some.injEq] at h6
   have := h5 (by rw [h6]; exact e)
   have h7 := congrArg List.length h2
   rw [← hl, size_toList, this] at h7
   simpa using h7
theorem noMinus {s : ByteArray} (h : DigS s) : Lib.hasPrefix s.data.toList [45] = false := by
 have h1 := drop_get s 0 h.some_
 rw [List.drop_zero] at h1
 have h2 := (h.dig 0 h.some_).1
 rw [h1]
 unfold Lib.hasPrefix
 simp only [List.isPrefixOf, Bool.and_eq_false_imp]
 intro e
 have : (45 : UInt8) = s[0]'h.some_ := by simpa using e
 rw [← this] at h2
 exact absurd h2 (by decide)
def NuRel2 (n : Nat) (v : Value) : Prop := ∃ k : Nat, k ≤ n ∧ v = .int .i64 k
set_option maxHeartbeats 2000000 in
set_option maxRecDepth 100000 in
theorem Number_any (s : ByteArray) (n hi : Int) (w : World) (hs : DigS s) (hp : Lib.parseIntB 64 s.data.toList = .ok n) (h0 : 0 ≤ n) (hn : n ≤ hi) (hi1 : hi ≤ 9000000000000000000) :
 Calls Tryz.prog 141 #[.string s, .int .i64 0, .int .i64 hi] w fun e w' => e = .returned (.tuple #[.int .i64 n, .int .i64 0]) ∧ Ext w w' := by
 have HD := Lib.hid hs
 have hlen := hs.some_
 have hfew := hs.few
 have HCut0 : Hid (∀ w, Calls Tryz.prog 174 #[.string s, .string ⟨#[45]⟩] w fun e w' => e = .returned (.tuple #[.string s, .bool false]) ∧ w = w') := by
  show ∀ w, _
  intro w
  have HP := Tryz.stringslite_HasPrefix s ⟨#[45]⟩ w
  rw [show Lib.hasPrefix s.data.toList (⟨#[45]⟩ : ByteArray).data.toList = false from noMinus hs] at HP
  have HP := Lib.hid HP
  clear hs hp
  go_enter Tryz.func174, Tryz.ntmps174
  go_wp2_with fail
  refine HP.out.mono ?_
  rintro e w' ⟨rfl, rfl⟩
  go_wp2_with fail
  go_ret2
  exact ⟨rfl, rfl⟩
 have HCut : Hid (∀ w, Calls Tryz.prog 163 #[.string s, .string ⟨#[45]⟩] w fun e w' => e = .returned (.tuple #[.string s, .bool false]) ∧ w = w') := by
  show ∀ w, _
  intro w
  clear hs hp
  go_enter Tryz.func163, Tryz.ntmps163
  go_wp2_with fail
  refine (HCut0.out w).mono ?_
  rintro e w' ⟨rfl, rfl⟩
  go_wp2_with fail
  go_ret2
  exact ⟨rfl, rfl⟩
 have HPr := Lib.hid (fun w => Tryz.strconv_ParseInt_10_at64_ok s (by omega) n hp w)
 have hne : s.size ≠ 0 := by omega
 have hz2 := str_ne2 hne
 have hz3 := str_ne hne
 have d1 : decide (n < 0) = false := decide_eq_false (by omega)
 have d2 : decide (hi < n) = false := decide_eq_false (by omega)
 have hz48 := hs.zero hlen
 clear hs hp
 by_cases hq : s[0].toNat = 48
 · have hz1 := hz48 hq
   have d3 : ¬ 1 < s.size := by omega
   have d3' : ¬ (1 : Int) < (s.size : Int) := by omega
   have d4 : (((s[0]).toNat : Int) == 48) = true := by rw [hq]; rfl
   clear hz48 hz1
   go_enter Tryz.func141, Tryz.ntmps141
   go_wp2_with fail
   refine (HCut.out _).mono ?_
   rintro e w1 ⟨rfl, rfl⟩
   go_wp2_with fail
   go_loop [35] (fun v => NuRel2 s.size v) (fun v => s.size - (intOf v).toNat)
   case atStart => exact ⟨0, Nat.zero_le _, rfl⟩
   case round =>
    obtain ⟨k, hk, rfl⟩ := hrel
    by_cases hlt : k < s.size
    · obtain ⟨g1, g2⟩ := HD.out.dig k hlt
      have f1 : decide (s[k].toNat < 48) = false := decide_eq_false (by omega)
      have f2 : decide (57 < s[k].toNat) = false := decide_eq_false (by omega)
      have f3 : ¬ s[k].toNat < 48 := by omega
      have f4 : ¬ 57 < s[k].toNat := by omega
      go_wp2_with fail
      exact ⟨⟨k + 1, by omega, by go_num⟩, by simp only [intOf]; omega⟩
    · have ek : k = s.size := by omega
      subst ek
      go_wp2_with fail
      refine (HPr.out _).mono ?_
      rintro e w1 ⟨rfl, hw⟩
      have HX : Hid (Ext w w1) := by
       show Ext w w1
       rcases hw with rfl | ⟨t, rfl⟩
       · exact Ext.refl _
       · exact ext_bytes _ _ _
      clear hw
      go_wp2_with fail
      go_ret2
      exact ⟨rfl, HX.out⟩
 · have d4 : (((s[0]).toNat : Int) == 48) = false := beq_eq_false_iff_ne.2 (by omega)
   clear hz48
   go_enter Tryz.func141, Tryz.ntmps141
   go_wp2_with fail
   refine (HCut.out _).mono ?_
   rintro e w1 ⟨rfl, rfl⟩
   go_wp2_with fail
   go_loop [35] (fun v => NuRel2 s.size v) (fun v => s.size - (intOf v).toNat)
   case atStart => exact ⟨0, Nat.zero_le _, rfl⟩
   case round =>
    obtain ⟨k, hk, rfl⟩ := hrel
    by_cases hlt : k < s.size
    · obtain ⟨g1, g2⟩ := HD.out.dig k hlt
      have f1 : decide (s[k].toNat < 48) = false := decide_eq_false (by omega)
      have f2 : decide (57 < s[k].toNat) = false := decide_eq_false (by omega)
      have f3 : ¬ s[k].toNat < 48 := by omega
      have f4 : ¬ 57 < s[k].toNat := by omega
      go_wp2_with fail
      exact ⟨⟨k + 1, by omega, by go_num⟩, by simp only [intOf]; omega⟩
    · have ek : k = s.size := by omega
      subst ek
      go_wp2_with fail
      refine (HPr.out _).mono ?_
      rintro e w1 ⟨rfl, hw⟩
      have HX : Hid (Ext w w1) := by
       show Ext w w1
       rcases hw with rfl | ⟨t, rfl⟩
       · exact Ext.refl _
       · exact ext_bytes _ _ _
      clear hw
      go_wp2_with fail
      go_ret2
      exact ⟨rfl, HX.out⟩
end
section
open Go.RowKit
def StrsAt (w : World) (A : Option Addr) (n : Nat) (l : List ByteArray) : Prop := Sl w 1 (Cells strVs) A n l
theorem StrsAt.ext {w w1 : World} {A : Option Addr} {n : Nat} {l : List ByteArray} (h : StrsAt w A n l) (k : Ext w w1) : StrsAt w1 A n l := Sl.ext (Cells.stays _) h k
theorem StrsAt.blk {w : World} {g n : Nat} {l : List ByteArray} {cs : Array Value} (hB : Blk w g 9 cs) (hc : cs = (l.flatMap strVs).toArray) (hn : l.length = n) : StrsAt w (some ⟨g, 0, none⟩) n l := by
 refine ⟨hn, fun _ => ⟨g, 0, rfl, fun i x hx j u hu => ?_⟩⟩
 have hj : j < 1 := by have := (List.getElem?_eq_some_iff.1 hu).1; simpa [strVs] using this
 rw [Nat.zero_add, hB.cell, hc]
 have := flatMap_at strVs 1 (fun _ => rfl) l i x j hx hj
 rw [hu] at this
 simpa using this
def memB (s : ByteArray) (l : List ByteArray) : Bool := l.any fun x => decide (x = s)
theorem memB_yes {s : ByteArray} {l : List ByteArray} (h : s ∈ l) : memB s l = true := List.any_eq_true.2 ⟨s, h, decide_eq_true rfl⟩
theorem memB_no {s : ByteArray} {l : List ByteArray} (h : ∀ x ∈ l, x ≠ s) : memB s l = false := List.any_eq_false.2 fun x hx => by simpa using h x hx
def MgRel (l : List ByteArray) (s : ByteArray) (n : Nat) (v : Value) : Prop := ∃ k : Nat, k ≤ n ∧ v = .int .i64 k ∧ ∀ x ∈ l.take k, x ≠ s
set_option maxHeartbeats 2000000 in
set_option maxRecDepth 100000 in
theorem among_any (A : Option Addr) (n c : Nat) (l : List ByteArray) (s : ByteArray) (w : World) (hat : StrsAt w A n l) (hn : n ≤ 1000000) :
 Calls Tryz.prog 61 #[.slice A n c, .string s] w fun e w' => e = .returned (.bool (memB s l)) ∧ w = w' := by
 have HA := Lib.hid hat
 clear hat
 go_enter Tryz.func61, Tryz.ntmps61
 go_wp2_with fail
 go_loop [9] (fun v => MgRel l s n v) (fun v => n - (intOf v).toNat)
 case atStart => exact ⟨0, Nat.zero_le _, rfl, fun x hx => by simp at hx⟩
 case round =>
  obtain ⟨k, hk, rfl, hne⟩ := hrel
  have HN := Lib.hid hne
  clear hne
  by_cases hlt : k < n
  · obtain ⟨b, off, x, rfl, hx, hcl⟩ := sl_str HA.out hlt
    have HAt := Lib.hid hx
    clear hx
    by_cases he : x = s
    · have hq := str_eqT he
      have HV : Hid (memB s l = true) := memB_yes (he ▸ List.mem_of_getElem? HAt.out)
      clear he
      go_wp2_with fail
      go_ret
      exact ⟨by rw [HV.out]; rfl, rfl⟩
    · have hq := str_eqF he
      have HNe : Hid (∀ y ∈ l.take (k + 1), y ≠ s) := by
       show ∀ y ∈ l.take (k + 1), y ≠ s
       intro y hy
       rw [take_snoc' l k x HAt.out] at hy
       rcases List.mem_append.1 hy with hy | hy
       · exact HN.out y hy
       · rw [List.mem_singleton.1 hy]; exact he
      clear he
      go_wp2_with fail
      exact ⟨⟨k + 1, by omega, by go_num, HNe.out⟩, by simp only [intOf]; omega⟩
  · have ek : k = n := by omega
    subst ek
    have HV : Hid (memB s l = false) := memB_no fun x hx => HN.out x (by rw [List.take_of_length_le (by rw [HA.out.len]; exact Nat.le_refl _)]; exact hx)
    go_wp2_with fail
    go_ret
    exact ⟨by rw [HV.out]; rfl, rfl⟩
def alwN (n : ByteArray) : List ByteArray := if n = sTt then [sRate, sLast] else if n = sRegion then [sName, sTop, sHeight, sLeft, sWidth, sAlign, sAnchor] else if n = sP then [sId, sIn, sOut, sKind] else []
def mayN (n : ByteArray) : List ByteArray := if n = sTt then [sTitle, sLang, sDrop] else if n = sP then [sRegion, sSpeaker] else if n = sRun then [sColor, sItalic, sUnderline, sRuby] else []
def elB (n : ByteArray) : Bool := decide (n = sTt ∨ n = sRegion ∨ n = sP ∨ n = sRow ∨ n = sRun ∨ n = ByteArray.empty)
set_option maxHeartbeats 2000000 in
set_option maxRecDepth 100000 in
theorem attributes_any (n : ByteArray) (w : World) (hn : elB n = true) : Calls Tryz.prog 60 #[.string n] w fun e w' => ∃ A a c B b d, e = .returned (.tuple #[.slice A a c, .slice B b d]) ∧ StrsAt w' A a (alwN n) ∧ StrsAt w' B b (mayN n) ∧ Ext w w' := by
 unfold elB at hn
 simp only [decide_eq_true_eq] at hn
 rcases hn with rfl | rfl | rfl | rfl | rfl | rfl
 · show Calls _ _ #[.string ⟨#[116, 116]⟩] _ _
   go_enter Tryz.func60, Tryz.ntmps60
   go_wp2_with fail
   go_ret2
   exact ⟨_, _, _, _, _, _, rfl, (StrsAt.blk (l := alwN sTt) (Blk.new w _ _) rfl rfl).ext ((Ext.refl _).alloc _), StrsAt.blk (l := mayN sTt) (Blk.new' (by simp)) rfl rfl, ((Ext.refl w).alloc _).alloc _⟩
 · show Calls _ _ #[.string ⟨#[114, 101, 103, 105, 111, 110]⟩] _ _
   go_enter Tryz.func60, Tryz.ntmps60
   go_wp2_with fail
   go_ret2
   exact ⟨_, _, _, _, _, _, rfl, StrsAt.blk (l := alwN sRegion) (Blk.new w _ _) rfl rfl, Sl.nil, (Ext.refl w).alloc _⟩
 · show Calls _ _ #[.string ⟨#[112]⟩] _ _
   go_enter Tryz.func60, Tryz.ntmps60
   go_wp2_with fail
   go_ret2
   exact ⟨_, _, _, _, _, _, rfl, (StrsAt.blk (l := alwN sP) (Blk.new w _ _) rfl rfl).ext ((Ext.refl _).alloc _), StrsAt.blk (l := mayN sP) (Blk.new' (by simp)) rfl rfl, ((Ext.refl w).alloc _).alloc _⟩
 · show Calls _ _ #[.string ⟨#[114, 111, 119]⟩] _ _
   go_enter Tryz.func60, Tryz.ntmps60
   go_wp2_with fail
   go_ret2
   exact ⟨_, _, _, _, _, _, rfl, Sl.nil, Sl.nil, Ext.refl w⟩
 · show Calls _ _ #[.string ⟨#[114, 117, 110]⟩] _ _
   go_enter Tryz.func60, Tryz.ntmps60
   go_wp2_with fail
   go_ret2
   exact ⟨_, _, _, _, _, _, rfl, Sl.nil, StrsAt.blk (l := mayN sRun) (Blk.new w _ _) rfl rfl, (Ext.refl w).alloc _⟩
 · show Calls _ _ #[.string ⟨#[]⟩] _ _
   go_enter Tryz.func60, Tryz.ntmps60
   go_wp2_with fail
   go_ret2
   exact ⟨_, _, _, _, _, _, rfl, Sl.nil, Sl.nil, Ext.refl w⟩
theorem alwN_le (n : ByteArray) : (alwN n).length ≤ 7 := by unfold alwN; (repeat' split) <;> decide
theorem mayN_le (n : ByteArray) : (mayN n).length ≤ 7 := by unfold mayN; (repeat' split) <;> decide
def alwC (n : ByteArray) (al : List (ByteArray × ByteArray)) : Nat := (al.filter fun a => memB a.1 (alwN n)).length
theorem alwC_snoc {n : ByteArray} {al : List (ByteArray × ByteArray)} {k : Nat} {a : ByteArray × ByteArray} (h : al[k]? = some a) : alwC n (al.take (k + 1)) = if memB a.1 (alwN n) = true then alwC n (al.take k) + 1 else alwC n (al.take k) := by
 unfold alwC
 rw [take_snoc' al k a h, List.filter_append, List.length_append]
 cases hs : memB a.1 (alwN n) <;> simp [hs]
theorem alwC_le (n : ByteArray) (al : List (ByteArray × ByteArray)) (k : Nat) : alwC n (al.take k) ≤ k := by
 have h1 := List.length_filter_le (fun a : ByteArray × ByteArray => memB a.1 (alwN n)) (al.take k)
 have h2 : (al.take k).length ≤ k := by rw [List.length_take]; omega
 exact Nat.le_trans h1 h2
def AtdRel (w : World) (n : ByteArray) (al : List (ByteArray × ByteArray)) (m : Nat) (u v : Value) (wr : World) : Prop := ∃ k : Nat, k ≤ m ∧ u = .int .i64 (alwC n (al.take k) : Nat) ∧ v = .int .i64 k ∧ Ext w wr
set_option maxHeartbeats 4000000 in
set_option maxRecDepth 100000 in
theorem attributed_ok (n tx : ByteArray) (A : Option Addr) (m c : Nat) (dep : Int) (al : List (ByteArray × ByteArray)) (w : World) (hn : elB n = true) (hat : AttrsAt w A m al) (hm : m ≤ 16) (hall : ∀ a ∈ al, memB a.1 (alwN n) = true ∨ memB a.1 (mayN n) = true) (hcnt : alwC n al = (alwN n).length) :
 Calls Tryz.prog 33 #[.agg #[.string n, .string tx, .slice A m c, .int .i64 dep]] w fun e w' => e = .returned (.bool true) ∧ Ext w w' := by
 have HA := Lib.hid hat
 have HAll := Lib.hid hall
 have HCn := Lib.hid hcnt
 have HAt := Lib.hid (fun w => attributes_any n w hn)
 have HBn := Lib.hid (Blk.new w 87 #[.string n, .string tx, .slice A m c, .int .i64 dep])
 have HX0 := Lib.hid ((Ext.refl w).alloc (.cells #[.string n, .string tx, .slice A m c, .int .i64 dep] 87))
 have hc := fun o => HBn.out.cell o
 have hl1 := alwN_le n
 have hl2 := mayN_le n
 clear hat hall hcnt hn
 go_enter Tryz.func33, Tryz.ntmps33
 go_wp2_with fail
 refine (HAt.out _).mono ?_
 rintro e w1 ⟨A1, a1, c1, A2, a2, c2, rfl, hs1, hs2, hx1⟩
 have HX1 := Lib.hid (HX0.out.trans hx1)
 have HB1 := Lib.hid (HBn.out.ext hx1)
 have hls1 := hs1.len
 have hls2 := hs2.len
 have hb1 : a1 ≤ 7 := by omega
 have hb2 : a2 ≤ 7 := by omega
 have HS1 := Lib.hid hs1
 have HS2 := Lib.hid hs2
 have HL1 := Lib.hid hls1
 clear hc hs1 hs2 hx1 hls1 hls2 hl1 hl2
 have hc := fun o => HB1.out.cell o
 go_wp2_with fail
 clear hc
 go_loopw [5, 17] (fun u v wr => AtdRel w1 n al m u v wr) (fun _ v _ => m - (intOf v).toNat)
 case atStart => exact ⟨0, Nat.zero_le _, rfl, rfl, Ext.refl w1⟩
 case round =>
  obtain ⟨k, hk, rfl, rfl, hx⟩ := hrel
  have HX := Lib.hid hx
  clear hx
  by_cases hlt : k < m
  · obtain ⟨ga, offa, aa, rfl, ha, ca0, ca1⟩ := attr_at (HA.out.ext (HX1.out.trans HX.out)) hlt
    have HSn := Lib.hid (alwC_snoc (n := n) ha)
    have HOr := Lib.hid (HAll.out aa (List.mem_of_getElem? ha))
    have hcl := alwC_le n al k
    obtain ⟨a1', a2'⟩ := aa
    dsimp only at ca0 ca1 HSn HOr
    have HBa := Lib.hid (Blk.new wr 69 #[.string a1', .string a2'])
    have hcb := fun o => HBa.out.cell o
    have HG := Lib.hid (fun s => among_any A1 a1 c1 (alwN n) s _ (HS1.out.ext (HX.out.alloc (.cells #[.string a1', .string a2'] 69))) (by omega))
    have HG2 := Lib.hid (fun s => among_any A2 a2 c2 (mayN n) s _ (HS2.out.ext (HX.out.alloc (.cells #[.string a1', .string a2'] 69))) (by omega))
    obtain ⟨q, hq⟩ : ∃ q, q = alwC n (al.take k) := ⟨_, rfl⟩
    rw [← hq] at hcl HSn ⊢
    clear ha hq
    by_cases hin : memB a1' (alwN n) = true
    · have HI : Hid (memB a1' (alwN n) = true) := hin
      rw [if_pos hin] at HSn
      clear hin
      go_wp2_with fail
      refine (HG.out _).mono ?_
      rintro e w' ⟨rfl, rfl⟩
      rw [HI.out]
      go_wp2_with fail
      exact ⟨⟨k + 1, by omega, by rw [HSn.out]; go_num, by go_num, HX.out.alloc _⟩, by simp only [intOf]; omega⟩
    · have HI : Hid (memB a1' (alwN n) = false) := by show _ = _; simpa using hin
      have HI2 : Hid (memB a1' (mayN n) = true) := HOr.out.resolve_left hin
      rw [if_neg hin] at HSn
      clear hin
      go_wp2_with fail
      refine (HG.out _).mono ?_
      rintro e w' ⟨rfl, rfl⟩
      rw [HI.out]
      go_wp2_with fail
      refine (HG2.out _).mono ?_
      rintro e w' ⟨rfl, rfl⟩
      rw [HI2.out]
      go_wp2_with fail
      exact ⟨⟨k + 1, by omega, by rw [HSn.out], by go_num, HX.out.alloc _⟩, by simp only [intOf]; omega⟩
  · have ek : k = m := by omega
    subst ek
    have htk : al.take k = al := List.take_of_length_le (by rw [HA.out.len]; exact Nat.le_refl _)
    rw [htk, HCn.out, HL1.out]
    clear htk
    go_wp2_with fail
    go_ret
    exact ⟨by simp, HX1.out.trans HX.out⟩
inductive Fits : ByteArray → ByteArray → Bool → Prop
 | tt (b : Bool) : Fits sTt ByteArray.empty b
 | reg : Fits sRegion sTt true
 | ev (b : Bool) : Fits sP sTt b
 | row (b : Bool) : Fits sRow sP b
 | run (b : Bool) : Fits sRun sRow b
 | txt (b : Bool) : Fits ByteArray.empty sRun b
set_option maxHeartbeats 2000000 in
set_option maxRecDepth 100000 in
theorem fits_ok (n tx p : ByteArray) (A : Option Addr) (m c : Nat) (dep : Int) (b : Bool) (w : World) (h : Fits n p b) :
 Calls Tryz.prog 32 #[.agg #[.string n, .string tx, .slice A m c, .int .i64 dep], .string p, .bool b] w fun e w' => e = .returned (.bool true) ∧ Ext w w' := by
 have HBn := Lib.hid (fun n => Blk.new w 87 #[.string n, .string tx, .slice A m c, .int .i64 dep])
 cases h
 · show Calls _ _ #[.agg #[.string ⟨#[116, 116]⟩, .string tx, .slice A m c, .int .i64 dep], .string ⟨#[]⟩, .bool b] _ _
   have hc := fun o => (HBn.out ⟨#[116, 116]⟩).cell o
   go_enter Tryz.func32, Tryz.ntmps32
   go_wp2_with fail
   go_ret
   exact ⟨rfl, (Ext.refl w).alloc _⟩
 · show Calls _ _ #[.agg #[.string ⟨#[114, 101, 103, 105, 111, 110]⟩, .string tx, .slice A m c, .int .i64 dep], .string ⟨#[116, 116]⟩, .bool true] _ _
   have hc := fun o => (HBn.out ⟨#[114, 101, 103, 105, 111, 110]⟩).cell o
   go_enter Tryz.func32, Tryz.ntmps32
   go_wp2_with fail
   go_ret
   exact ⟨rfl, (Ext.refl w).alloc _⟩
 · show Calls _ _ #[.agg #[.string ⟨#[112]⟩, .string tx, .slice A m c, .int .i64 dep], .string ⟨#[116, 116]⟩, .bool b] _ _
   have hc := fun o => (HBn.out ⟨#[112]⟩).cell o
   go_enter Tryz.func32, Tryz.ntmps32
   go_wp2_with fail
   go_ret
   exact ⟨rfl, (Ext.refl w).alloc _⟩
 · show Calls _ _ #[.agg #[.string ⟨#[114, 111, 119]⟩, .string tx, .slice A m c, .int .i64 dep], .string ⟨#[112]⟩, .bool b] _ _
   have hc := fun o => (HBn.out ⟨#[114, 111, 119]⟩).cell o
   go_enter Tryz.func32, Tryz.ntmps32
   go_wp2_with fail
   go_ret
   exact ⟨rfl, (Ext.refl w).alloc _⟩
 · show Calls _ _ #[.agg #[.string ⟨#[114, 117, 110]⟩, .string tx, .slice A m c, .int .i64 dep], .string ⟨#[114, 111, 119]⟩, .bool b] _ _
   have hc := fun o => (HBn.out ⟨#[114, 117, 110]⟩).cell o
   go_enter Tryz.func32, Tryz.ntmps32
   go_wp2_with fail
   go_ret
   exact ⟨rfl, (Ext.refl w).alloc _⟩
 · show Calls _ _ #[.agg #[.string ⟨#[]⟩, .string tx, .slice A m c, .int .i64 dep], .string ⟨#[114, 117, 110]⟩, .bool b] _ _
   have hc := fun o => (HBn.out ⟨#[]⟩).cell o
   go_enter Tryz.func32, Tryz.ntmps32
   go_wp2_with fail
   go_ret
   exact ⟨rfl, (Ext.refl w).alloc _⟩
end
section
open Go.RowKit
theorem Number_dec (n hi : Int) (w : World) (h0 : 0 ≤ n) (hn : n ≤ hi) (hi1 : hi ≤ 1099511627776) :
 Calls Tryz.prog 141 #[.string (decS n), .int .i64 0, .int .i64 hi] w fun e w' => e = .returned (.tuple #[.int .i64 n, .int .i64 0]) ∧ Ext w w' :=
 Number_any (decS n) n hi w (decS_dig h0 (by omega)) (parse_dec h0 (by omega)) h0 hn (by omega)
set_option maxHeartbeats 1000000 in
theorem vdecimal_ok (g : Nat) (nm tx : ByteArray) (al : List (ByteArray × ByteArray)) (n hi : Int) (w : World) (hv : VlAt w g nm tx al) (h0 : 0 ≤ n) (hn : n ≤ hi) (hi1 : hi ≤ 1099511627776) :
 Calls Tryz.prog 106 #[.pointer (some ⟨g, 0, none⟩), .string (decS n), .int .i64 hi] w fun e w' => e = .returned (.int .i64 n) ∧ Ext w w' := by
 have HN := Lib.hid (Number_dec n hi w h0 hn hi1)
 have HV := Lib.hid hv
 clear hv
 go_enter Tryz.func106, Tryz.ntmps106
 go_wp2_with fail
 refine HN.out.mono ?_
 rintro e w1 ⟨rfl, hx1⟩
 have HX1 := Lib.hid hx1
 clear hx1
 go_wp2_with fail
 refine (vfail_ok g nm tx al _ (HV.out.ext HX1.out)).mono ?_
 rintro e w2 ⟨rfl, hx2⟩
 have HX2 := Lib.hid (HX1.out.trans hx2)
 clear hx2
 go_wp2_with fail
 go_ret
 exact ⟨rfl, HX2.out⟩
set_option maxHeartbeats 1000000 in
theorem vnumber_ok (g : Nat) (nm tx : ByteArray) (al : List (ByteArray × ByteArray)) (s : ByteArray) (n hi : Int) (w : World) (hv : VlAt w g nm tx al) (hs : attrV al s = decS n) (h0 : 0 ≤ n) (hn : n ≤ hi) (hi1 : hi ≤ 1099511627776) :
 Calls Tryz.prog 66 #[.pointer (some ⟨g, 0, none⟩), .string s, .int .i64 hi] w fun e w' => e = .returned (.int .i64 n) ∧ Ext w w' := by
 have HT : Hid (Calls Tryz.prog 62 #[.pointer (some ⟨g, 0, none⟩), .string s] w fun e w' => e = .returned (.string (decS n)) ∧ Ext w w') := by
  have := vtext_any g nm tx al s w hv
  rw [hs] at this
  exact this
 have HD := Lib.hid (fun w' (hx : Ext w w') => vdecimal_ok g nm tx al n hi w' (hv.ext hx) h0 hn hi1)
 clear hv hs
 go_enter Tryz.func66, Tryz.ntmps66
 go_wp2_with fail
 refine HT.out.mono ?_
 rintro e w1 ⟨rfl, hx1⟩
 have HX1 := Lib.hid hx1
 clear hx1
 go_wp2_with fail
 refine (HD.out _ HX1.out).mono ?_
 rintro e w2 ⟨rfl, hx2⟩
 have HX2 := Lib.hid (HX1.out.trans hx2)
 clear hx2
 go_wp2_with fail
 go_ret
 exact ⟨rfl, HX2.out⟩
set_option maxHeartbeats 1000000 in
theorem vcell_ok (g : Nat) (nm tx : ByteArray) (al : List (ByteArray × ByteArray)) (s : ByteArray) (n : Int) (w : World) (hv : VlAt w g nm tx al) (hs : attrV al s = decS n) (h0 : 0 ≤ n) (hn : n ≤ 32) :
 Calls Tryz.prog 67 #[.pointer (some ⟨g, 0, none⟩), .string s] w fun e w' => e = .returned (.int .i64 n) ∧ Ext w w' := by
 have HT := Lib.hid (vnumber_ok g nm tx al s n 32 w hv hs h0 hn (by decide))
 clear hv hs
 go_enter Tryz.func67, Tryz.ntmps67
 go_wp2_with fail
 refine HT.out.mono ?_
 rintro e w1 ⟨rfl, hx1⟩
 have HX1 := Lib.hid hx1
 clear hx1
 go_wp2_with fail
 go_ret
 exact ⟨rfl, HX1.out⟩
theorem cut_suf (t : ByteArray) : (t ++ sF).extract 0 t.size = t := by
 apply ByteArray.ext
 rw [ByteArray.data_extract, ByteArray.data_append]
 apply Array.ext'
 rw [Array.toList_extract, Array.toList_append]
 simp only [List.extract_eq_take_drop, Nat.sub_zero, List.drop_zero]
 rw [← size_toList, List.take_left]
theorem CutF_ok (t s : ByteArray) (w : World) (ht : t.size ≤ 4294967296) (hs : s = t ++ sF) :
 Calls Tryz.prog 142 #[.string s, .string ⟨#[102]⟩] w fun e w' => e = .returned (.tuple #[.string t, .bool true]) ∧ w = w' := by
 have hsz : s.size = t.size + 1 := by rw [hs, ByteArray.size_append]; rfl
 have HP := Tryz.stringslite_HasSuffix s ⟨#[102]⟩ w (by omega)
 rw [show Lib.hasSuffix s.data.toList (⟨#[102]⟩ : ByteArray).data.toList = true from by
  rw [hs, ByteArray.data_append, Array.toList_append]
  unfold Lib.hasSuffix
  rw [List.isSuffixOf_iff_suffix]
  exact List.suffix_append _ _] at HP
 have HP := Lib.hid HP
 have HC : Hid (s.extract 0 t.size = t) := by show _ = _; rw [hs]; exact cut_suf t
 clear hs
 obtain ⟨m, hm⟩ : ∃ m, m = t.size := ⟨_, rfl⟩
 rw [← hm] at HC hsz ht
 clear hm
 have e1 : ((s.size : Int) - 1) = (m : Int) := by omega
 go_enter Tryz.func142, Tryz.ntmps142
 go_wp2_with fail
 refine HP.out.mono ?_
 rintro e w' ⟨rfl, rfl⟩
 go_wp2_with fail
 go_ret2
 exact ⟨by rw [HC.out]; rfl, rfl⟩
theorem CutFp_ok (t s : ByteArray) (w : World) (ht : t.size ≤ 4294967296) (hs : s = t ++ sF) :
 Calls Tryz.prog 107 #[.string s, .string ⟨#[102]⟩] w fun e w' => e = .returned (.tuple #[.string t, .bool true]) ∧ w = w' := by
 have HC := Lib.hid (CutF_ok t s w ht hs)
 clear hs ht
 go_enter Tryz.func107, Tryz.ntmps107
 go_wp2_with fail
 refine HC.out.mono ?_
 rintro e w' ⟨rfl, rfl⟩
 go_wp2_with fail
 go_ret2
 exact ⟨rfl, rfl⟩
end
section
open Go.RowKit
set_option maxHeartbeats 1000000 in
theorem vframe_ok (g : Nat) (nm tx : ByteArray) (al : List (ByteArray × ByteArray)) (s : ByteArray) (n : Int) (w : World) (hv : VlAt w g nm tx al) (hs : attrV al s = frS n) (h0 : 0 ≤ n) (hn : n ≤ 5184000) :
 Calls Tryz.prog 69 #[.pointer (some ⟨g, 0, none⟩), .string s] w fun e w' => e = .returned (.int .i64 n) ∧ Ext w w' := by
 have HT : Hid (Calls Tryz.prog 62 #[.pointer (some ⟨g, 0, none⟩), .string s] w fun e w' => e = .returned (.string (frS n)) ∧ Ext w w') := by
  have := vtext_any g nm tx al s w hv
  rw [hs] at this
  exact this
 have HD := Lib.hid (fun w' (hx : Ext w w') => vdecimal_ok g nm tx al n 5184000 w' (hv.ext hx) h0 hn (by decide))
 have HC := Lib.hid (fun w => CutFp_ok (decS n) (frS n) w (decS_dig h0 (by omega)).few rfl)
 clear hv hs
 go_enter Tryz.func69, Tryz.ntmps69
 go_wp2_with fail
 refine HT.out.mono ?_
 rintro e w1 ⟨rfl, hx1⟩
 have HX1 := Lib.hid hx1
 clear hx1
 go_wp2_with fail
 refine (HC.out _).mono ?_
 rintro e w2 ⟨rfl, rfl⟩
 go_wp2_with fail
 refine (HD.out _ HX1.out).mono ?_
 rintro e w2 ⟨rfl, hx2⟩
 have HX2 := Lib.hid (HX1.out.trans hx2)
 clear hx2
 go_wp2_with fail
 go_ret
 exact ⟨rfl, HX2.out⟩
theorem flagS_one' (b : Bool) : decide (flagS b = sOne) = b := by cases b <;> decide
set_option maxHeartbeats 2000000 in
set_option maxRecDepth 100000 in
theorem vflag_ok (g : Nat) (nm tx : ByteArray) (al : List (ByteArray × ByteArray)) (s : ByteArray) (b : Bool) (w : World) (hv : VlAt w g nm tx al) (hs : attrV al s = flagS b) (hall : ∀ a ∈ al, a.1 = s → a.2 = sOne) :
 Calls Tryz.prog 65 #[.pointer (some ⟨g, 0, none⟩), .string s] w fun e w' => e = .returned (.bool b) ∧ Ext w w' := by
 have HT : Hid (∀ w', Ext w w' → Calls Tryz.prog 62 #[.pointer (some ⟨g, 0, none⟩), .string s] w' fun e w2 => e = .returned (.string (flagS b)) ∧ Ext w' w2) := fun w' hx => by
  have := vtext_any g nm tx al s w' (hv.ext hx)
  rw [hs] at this
  exact this
 obtain ⟨A, m, c, dep, hB, hA, hm⟩ := hv
 have HA := Lib.hid hA.at_
 have HAll := Lib.hid hall
 have hc := fun o => hB.cell o
 clear hB hA hs hall
 go_enter Tryz.func65, Tryz.ntmps65
 go_wp2_with fail
 clear hc
 go_loopw [13] (fun v wr => N2Rel w m v wr) (fun v _ => m - (intOf v).toNat)
 case atStart => exact ⟨0, Nat.zero_le _, rfl, Ext.refl w⟩
 case round =>
  obtain ⟨k, hk, rfl, hx⟩ := hrel
  have HX := Lib.hid hx
  clear hx
  by_cases hlt : k < m
  · obtain ⟨ga, offa, aa, rfl, ha, ca0, ca1⟩ := attr_at (HA.out.ext HX.out) hlt
    have HV := Lib.hid (HAll.out aa (List.mem_of_getElem? ha))
    obtain ⟨a1, a2⟩ := aa
    dsimp only at ca0 ca1 HV
    clear ha
    by_cases he : a1 = s
    · have hq := str_eqT he
      have h2 := HV.out he
      subst h2
      unfold sOne at ca1
      have HBa := Lib.hid (Blk.new wr 69 #[.string a1, .string ⟨#[49]⟩])
      have hcb := fun o => HBa.out.cell o
      clear he
      go_wp2_with fail
      exact ⟨⟨k + 1, by omega, by go_num, HX.out.alloc _⟩, by simp only [intOf]; omega⟩
    · have hq := str_eqF he
      have HBa := Lib.hid (Blk.new wr 69 #[.string a1, .string a2])
      have hcb := fun o => HBa.out.cell o
      clear he
      go_wp2_with fail
      exact ⟨⟨k + 1, by omega, by go_num, HX.out.alloc _⟩, by simp only [intOf]; omega⟩
  · have ek : k = m := by omega
    subst ek
    go_wp2_with fail
    refine (HT.out _ HX.out).mono ?_
    rintro e w2 ⟨rfl, hx2⟩
    have HX2 := Lib.hid (HX.out.trans hx2)
    clear hx2
    have hfl : ((flagS b).toList == [49]) = b := by
     have := str_eq (flagS b) sOne
     rw [flagS_one', ByteArray.toList_eq sOne] at this
     exact this
    go_wp2_with fail
    go_ret
    exact ⟨rfl, HX2.out⟩
def ChRel (w : World) (l : List ByteArray) (s : ByteArray) (i : Nat) (v : Value) (wr : World) : Prop := ∃ k : Nat, k ≤ i ∧ v = .int .i64 k ∧ Ext w wr
set_option maxHeartbeats 2000000 in
set_option maxRecDepth 100000 in
theorem vchoice_ok (g : Nat) (nm tx : ByteArray) (al : List (ByteArray × ByteArray)) (s : ByteArray) (A : Option Addr) (n c : Nat) (l : List ByteArray) (i : Nat) (w : World) (hv : VlAt w g nm tx al) (hat : StrsAt w A n l) (hn : n ≤ 1000) (hi : l[i]? = some (attrV al s)) (hd : l.Nodup) :
 Calls Tryz.prog 68 #[.pointer (some ⟨g, 0, none⟩), .string s, .slice A n c] w fun e w' => e = .returned (.int .i64 (i : Int)) ∧ Ext w w' := by
 have HT := Lib.hid (vtext_any g nm tx al s w hv)
 obtain ⟨t, ht⟩ : ∃ t, t = attrV al s := ⟨_, rfl⟩
 rw [← ht] at HT hi
 clear ht hv
 have HA := Lib.hid hat
 have HI := Lib.hid hi
 have HD := Lib.hid hd
 have hin : i < n := by have := (List.getElem?_eq_some_iff.1 hi).1; have := hat.len; omega
 clear hat hi hd
 go_enter Tryz.func68, Tryz.ntmps68
 go_wp2_with fail
 refine HT.out.mono ?_
 rintro e w1 ⟨rfl, hx1⟩
 have HX1 := Lib.hid hx1
 clear hx1
 go_wp2_with fail
 go_loopw [15] (fun v wr => ChRel w1 l t i v wr) (fun v _ => n - (intOf v).toNat)
 case atStart => exact ⟨0, Nat.zero_le _, rfl, Ext.refl w1⟩
 case round =>
  obtain ⟨k, hk, rfl, hx⟩ := hrel
  have HX := Lib.hid hx
  clear hx
  have hlt : k < n := by omega
  obtain ⟨b, off, x, rfl, hx, hcl⟩ := sl_str (HA.out.ext (HX1.out.trans HX.out)) hlt
  have HAt := Lib.hid hx
  clear hx
  by_cases he : k = i
  · have HE : Hid (x = t) := Option.some.inj (HAt.out.symm.trans (he ▸ HI.out))
    have hq := str_eqT HE.out
    subst he
    go_wp2_with fail
    go_ret
    exact ⟨rfl, HX1.out.trans HX.out⟩
  · have hne : x ≠ t := fun e => he (by
     have h1 := (List.getElem?_eq_some_iff.1 HAt.out).1
     exact (List.getElem?_inj h1 HD.out).1 (by rw [HAt.out, HI.out, e]))
    have hq := str_eqF hne
    clear hne
    go_wp2_with fail
    exact ⟨⟨k + 1, by omega, by go_num, HX.out⟩, by simp only [intOf]; omega⟩
def colL : List ByteArray := [sWhite, sGreen, sBlue, sCyan, sRed, sYellow, sMagenta]
def alnL : List ByteArray := [sALEFT, sACENTER, sARIGHT]
def colCx : Array Value := #[.string ⟨#[119, 104, 105, 116, 101]⟩, .string ⟨#[103, 114, 101, 101, 110]⟩, .string ⟨#[98, 108, 117, 101]⟩, .string ⟨#[99, 121, 97, 110]⟩, .string ⟨#[114, 101, 100]⟩, .string ⟨#[121, 101, 108, 108, 111, 119]⟩, .string ⟨#[109, 97, 103, 101, 110, 116, 97]⟩]
def alnCx : Array Value := #[.string ⟨#[76, 69, 70, 84]⟩, .string ⟨#[67, 69, 78, 84, 69, 82]⟩, .string ⟨#[82, 73, 71, 72, 84]⟩]
theorem StrsAt.tab {w : World} {g n : Nat} {T : TypeId} {l : List ByteArray} {cs : Array Value} (hB : Blk w g T cs) (hc : cs = (l.flatMap strVs).toArray) (hn : l.length = n) : StrsAt w (some ⟨g, 0, none⟩) n l := by
 refine ⟨hn, fun _ => ⟨g, 0, rfl, fun i x hx j u hu => ?_⟩⟩
 have hj : j < 1 := by have := (List.getElem?_eq_some_iff.1 hu).1; simpa [strVs] using this
 rw [Nat.zero_add, hB.cell, hc]
 have := flatMap_at strVs 1 (fun _ => rfl) l i x j hx hj
 rw [hu] at this
 simpa using this
def ClRel (w : World) (al : List (ByteArray × ByteArray)) (m : Nat) (v : Value) (wr : World) : Prop := ∃ k : Nat, k ≤ m ∧ v = .int .i64 k ∧ Ext w wr ∧ ∀ x ∈ al.take k, x.1 ≠ sColor
set_option maxHeartbeats 2000000 in
set_option maxRecDepth 100000 in
theorem vcolor_ok (g : Nat) (nm tx : ByteArray) (al : List (ByteArray × ByteArray)) (co : Int) (w : World) (hv : VlAt w g nm tx al) (h0 : 0 ≤ co) (h6 : co ≤ 6) (hs : attrV al sColor = colorS co) (hall : ∀ a ∈ al, a.1 = sColor → (colorS co).size ≠ 0)
 (hex : co ≠ 0 → ∃ a ∈ al, a.1 = sColor) (hT : Blk w 1 84 colCx) :
 Calls Tryz.prog 71 #[.pointer (some ⟨g, 0, none⟩)] w fun e w' => e = .returned (.int .u8 co) ∧ Ext w w' := by
 have HCh : Hid (1 ≤ co → ∀ w', Ext w w' → Calls Tryz.prog 68 #[.pointer (some ⟨g, 0, none⟩), .string ⟨#[99, 111, 108, 111, 114]⟩, .slice (some ⟨1, 0, none⟩) 7 7] w' fun e w2 => e = .returned (.int .i64 co) ∧ Ext w' w2) := fun h1 w' hx => by
  have hat : StrsAt w' (some ⟨1, 0, none⟩) 7 colL := (StrsAt.tab (l := colL) hT rfl rfl).ext hx
  have := vchoice_ok g nm tx al sColor _ 7 7 colL co.toNat w' (hv.ext hx) hat (by decide) (by
   rw [hs]
   have : co = 1 ∨ co = 2 ∨ co = 3 ∨ co = 4 ∨ co = 5 ∨ co = 6 := by omega
   rcases this with rfl | rfl | rfl | rfl | rfl | rfl <;> rfl) (by decide)
  rwa [Int.toNat_of_nonneg h0] at this
 obtain ⟨A, m, c, dep, hB, hA, hm⟩ := hv
 have HA := Lib.hid hA.at_
 have HAll := Lib.hid hall
 have HEx := Lib.hid hex
 have hc := fun o => hB.cell o
 clear hB hA hs hall hex hT
 go_enter Tryz.func71, Tryz.ntmps71
 go_wp2_with fail
 clear hc
 go_loopw [11] (fun v wr => ClRel w al m v wr) (fun v _ => m - (intOf v).toNat)
 case atStart => exact ⟨0, Nat.zero_le _, rfl, Ext.refl w, fun x hx => by simp at hx⟩
 case round =>
  obtain ⟨k, hk, rfl, hx, hn⟩ := hrel
  have HX := Lib.hid hx
  have HN := Lib.hid hn
  clear hx hn
  by_cases hlt : k < m
  · obtain ⟨ga, offa, aa, rfl, ha, ca0, ca1⟩ := attr_at (HA.out.ext HX.out) hlt
    have HV := Lib.hid (HAll.out aa (List.mem_of_getElem? ha))
    have HAt := Lib.hid ha
    obtain ⟨a1, a2⟩ := aa
    dsimp only at ca0 ca1 HV
    have HBa := Lib.hid (Blk.new wr 69 #[.string a1, .string a2])
    have hcb := fun o => HBa.out.cell o
    clear ha
    by_cases he : a1 = sColor
    · have h2 := HV.out he
      have h1 : 1 ≤ co := by
       by_cases hz : co = 0
       · subst hz; exact absurd rfl h2
       · omega
      have hco : co = 1 ∨ co = 2 ∨ co = 3 ∨ co = 4 ∨ co = 5 ∨ co = 6 := by omega
      have hwr : IntKind.u8.wrap co = co := by rcases hco with rfl | rfl | rfl | rfl | rfl | rfl <;> rfl
      clear h2 hco
      subst he
      unfold sColor at ca0 hcb
      have HC := Lib.hid (HCh.out h1)
      go_wp2_with fail
      refine (HC.out _ (HX.out.alloc _)).mono ?_
      rintro e w2 ⟨rfl, hx2⟩
      have HX2 := Lib.hid ((HX.out.alloc _).trans hx2)
      clear hx2
      go_wp2_with fail
      go_ret
      exact ⟨by first | rfl | (rw [hwr]), HX2.out⟩
    · have hq : (a1.toList == [99, 111, 108, 111, 114]) = false := by
       have := str_eqF he
       rw [ByteArray.toList_eq sColor] at this
       exact this
      have HNe := Lib.hid (take_ne HAt.out HN.out he)
      clear he
      go_wp2_with fail
      exact ⟨⟨k + 1, by omega, by go_num, HX.out.alloc _, HNe.out⟩, by simp only [intOf]; omega⟩
  · have ek : k = m := by omega
    subst ek
    have h1 : co = 0 := by
     by_cases hz : co = 0
     · exact hz
     · obtain ⟨a, ha, hs⟩ := HEx.out hz
       exact absurd hs (HN.out a (by rw [List.take_of_length_le (by rw [HA.out.len]; exact Nat.le_refl _)]; exact ha))
    subst h1
    go_wp2_with fail
    go_ret
    exact ⟨rfl, HX.out⟩
end
end Go.Proofs.YtbmblnhfmpolbaaGreatDoor