/- Texts laid together. -/
import Derived.Test.YtbmblnhfmpolbaaGreatDoorTm03
import Derived.Test.YtbmblnhfmpolbaaGreatDoorTm10
import Derived.Test.YtbmblnhfmpolbaaGreatDoorTm13
import Derived.Test.YtbmblnhfmpolbaaGreatDoorTm23
import Derived.OpenShut
import Derived.Test.YtbmblnhfmpolbaaGreatDoorTm01
import Derived.Test.YtbmblnhfmpolbaaGreatDoorRows
import Derived.Deep.DeepWitnessRowRef
set_option linter.unusedVariables false
set_option linter.unusedSimpArgs false
namespace Go.Proofs.YtbmblnhfmpolbaaGreatDoor
section
open Go.RowKit Go.ChangeShapes Go.WideShapes Go.ChangeAt
def OpensK {α : Type} (P : Program) (W : World) (t : TypeId) (R : Nat → List Value → α → Prop) : Prop :=
 ∀ (H : Type) (enc : TypeId × Value → H) (fuel : Nat) (cs : List Value) (x : DataW H × List MemPlace), DataW.trod enc P W 0 (fun _ => true) true fuel t cs = some x → (∀ n ∈ x.1.weights P t, n ≤ reachBytes) → ∃ a, R (Rows.uptoBulk x.1) cs a
theorem bulkAll_map {H β : Type} (l : List (DataW H × β)) : Rows.uptoBulkAll (l.map (·.1)) = (l.map fun x => Rows.uptoBulk x.1).sum := by
 induction l with
 | nil => simp [Rows.uptoBulkAll]
 | cons x l ih => simp only [List.map_cons, Rows.uptoBulkAll, ih, List.sum_cons]
theorem bulk_at {H : Type} : ∀ {l : List (DataW H)} {i : Nat} {d : DataW H}, l[i]? = some d → Rows.uptoBulk d ≤ Rows.uptoBulkAll l
 | [], _, _, h => by simp at h
 | x :: l, 0, d, h => by simp at h; subst h; simp only [Rows.uptoBulkAll]; omega
 | x :: l, i + 1, d, h => by have := bulk_at (l := l) (i := i) (by simpa using h); simp only [Rows.uptoBulkAll]; omega
theorem OpensK.slice {α : Type} {P : Program} {W : World} {t e : TypeId} {s bts : Nat} {R : Nat → List Value → α → Prop} (ht : P.underlying t = some (.slice e)) (hc : P.cellsOf e = s) (hs : 0 < s) (hb : P.bytesOf e = bts) (hR : OpensK P W e R)
 {H : Type} {enc : TypeId × Value → H} {fuel : Nat} {cs : List Value} {x : DataW H × List MemPlace} (h : DataW.trod enc P W 0 (fun _ => true) true fuel t cs = some x) (hw : ∀ n ∈ x.1.weights P t, n ≤ reachBytes) :
 ∃ A n c, ∃ l : List (α × Nat), cs = [.slice A n c] ∧ n ≤ c ∧ c ≤ maxLen ∧ c * bts ≤ reachBytes ∧ Sl W s (fun w b o p => Mem (R p.2) w b o p.1) A n l ∧ (l.map (·.2)).sum + 1 ≤ Rows.uptoBulk x.1 := by
 rcases DataW.trod_slice ht h with ⟨rfl, rfl⟩ | ⟨ad, len, cap, elems, rest, n, rfl, rfl, rfl, _, hlc, hcm, hel, hat, hsp, _⟩
 · exact ⟨none, 0, 0, [], rfl, Nat.le_refl _, by simp [maxLen], by simp [reachBytes], Sl.nil, by simp [Rows.uptoBulk]⟩
 · obtain ⟨hrl, _⟩ := hsp rfl
   simp only [DataW.weights, ht, List.mem_cons, List.mem_append, List.length_map] at hw
   have hcap : cap * bts ≤ reachBytes := by
    have := hw _ (.inl rfl)
    rw [hel, hrl, hb, show len + (cap - len) = cap by omega] at this
    exact this
   have hall : ∀ i (hi : i < elems.length), ∃ a b off, ad = ⟨b, off, none⟩ ∧ Mem (R (Rows.uptoBulk elems[i].1)) W b (off + i * s) a := by
    intro i hie
    have hi : i < len := by omega
    have h1 := hat i hi
    rw [List.getElem?_eq_getElem hie, Option.bind_eq_some_iff] at h1
    obtain ⟨cs', h2, h3⟩ := h1
    obtain ⟨a, ha⟩ := hR H enc n cs' _ h3 (fun m hm => hw m (.inr (.inl (weightsAll_mem (List.mem_map.2 ⟨_, List.getElem_mem hie, rfl⟩) hm))))
    obtain ⟨_, hcl, hcc⟩ := World.cells?_some h2
    rw [hc] at hcl hcc
    obtain ⟨b, off, sp⟩ := ad
    refine ⟨a, b, off, ?_, cs', fun j u hu => ?_, ha⟩
    · have hz := hat 0 (by omega)
      rw [List.getElem?_eq_getElem (show 0 < elems.length by omega), Option.bind_eq_some_iff] at hz
      obtain ⟨cz, hz2, _⟩ := hz
      obtain ⟨_, hzl, hzc⟩ := World.cells?_some hz2
      rw [hc] at hzl hzc
      have := hzc 0 hs
      rw [List.getElem?_eq_getElem (show 0 < cz.length by omega)] at this
      simp only [Nat.zero_mul, Addr.add, if_true] at this
      rw [cell_none this]
    · have hj : j < s := by rw [← hcl]; exact (List.getElem?_eq_some_iff.1 hu).1
      have h4 := hcc j hj
      rw [hu] at h4
      have e1 : (⟨b, off + i * s + j, none⟩ : Addr) = (Addr.add ⟨b, off, none⟩ (i * s)).add j := by rw [Addr.add_mid, Addr.add_mid]
      rw [e1]
      by_cases hz : i * s + j = 0
      · have hi0 : i * s = 0 := by omega
        have hj0 : j = 0 := by omega
        rw [hi0, hj0] at h4 ⊢
        simp only [Addr.add, if_true] at h4 ⊢
        obtain rfl := cell_none h4
        exact h4
      · have e2 : (Addr.add ⟨b, off, sp⟩ (i * s)).add j = (Addr.add ⟨b, off, none⟩ (i * s)).add j := by
         simp only [Addr.add]
         by_cases h5 : i * s = 0
         · rw [if_pos h5, if_pos h5, if_neg (by omega), if_neg (by omega)]
         · rw [if_neg h5, if_neg h5]
        rw [e2] at h4
        exact h4
   have hbk : ∀ l : List (α × Nat), l.map (·.2) = elems.map (fun y => Rows.uptoBulk y.1) → (l.map (·.2)).sum + 1 ≤ Rows.uptoBulk (DataW.slice (elems.map (·.1)) (rest.map (·.1))) := fun l hl => by
    rw [hl]
    simp only [Rows.uptoBulk, bulkAll_map]
    omega
   by_cases h0 : len = 0
   · subst h0
     exact ⟨some ad, 0, cap, [], rfl, hlc, hcm, hcap, Sl.nil, hbk [] (by rw [List.eq_nil_of_length_eq_zero hel]; rfl)⟩
   · obtain ⟨_, b, off, rfl, _⟩ := hall 0 (by omega)
     have key : ∀ (es : List (DataW H × List MemPlace)) (k : Nat), (∀ i (hi : i < es.length), ∃ a, Mem (R (Rows.uptoBulk es[i].1)) W b (off + (k + i) * s) a) →
      ∃ l : List (α × Nat), l.length = es.length ∧ (∀ i p, l[i]? = some p → Mem (R p.2) W b (off + (k + i) * s) p.1) ∧ l.map (·.2) = es.map (fun y => Rows.uptoBulk y.1) := by
      intro es
      induction es with
      | nil => intro k _; exact ⟨[], rfl, fun i p h => by simp at h, rfl⟩
      | cons y es ih =>
       intro k hes
       obtain ⟨a, ha⟩ := hes 0 (by simp)
       obtain ⟨l, h1, h2, h3⟩ := ih (k + 1) (fun i hi => by
        obtain ⟨a, ha⟩ := hes (i + 1) (by simp; omega)
        refine ⟨a, ?_⟩
        rw [show k + 1 + i = k + (i + 1) by omega]
        exact ha)
       refine ⟨(a, Rows.uptoBulk y.1) :: l, by simp [h1], fun i p hp => ?_, by simp [h3]⟩
       match i, hp with
       | 0, hp => simp at hp; subst hp; exact ha
       | i + 1, hp =>
        have := h2 i p (by simpa using hp)
        rw [show k + 1 + i = k + (i + 1) by omega] at this
        exact this
     obtain ⟨l, h1, h2, h3⟩ := key elems 0 (fun i hi => by
      obtain ⟨a, b', off', he, hm⟩ := hall i hi
      cases he
      exact ⟨a, by rw [Nat.zero_add]; exact hm⟩)
     refine ⟨_, len, cap, l, rfl, hlc, hcm, hcap, ⟨by omega, fun _ => ⟨b, off, rfl, fun i p hp => ?_⟩⟩, hbk l h3⟩
     have := h2 i p hp
     rw [Nat.zero_add] at this
     exact this
theorem OpensK.of {α : Type} {P : Program} {W : World} {t : TypeId} {R : List Value → α → Prop} (h : Opens P W t R) : OpensK P W t (fun _ cs a => R cs a) := fun H enc fuel cs x h1 h2 => h H enc fuel cs x h1 h2
theorem OpensK.string {P : Program} {W : World} {t : TypeId} (ht : P.underlying t = some .string) : OpensK P W t (fun k cs (a : ByteArray) => cs = [.string a] ∧ a.size + 1 ≤ k) :=
 fun _ _ _ _ _ h _ => by
  obtain ⟨s, h1, h2, _⟩ := DataW.trod_string ht h
  subst h2
  exact ⟨s, h1, by simp [Rows.uptoBulk]⟩
theorem OpensK.fields {P : Program} {W : World} {t : TypeId} {fs : Array Field} (ht : P.underlying t = some (.struct fs)) {H : Type} {enc : TypeId × Value → H} {fuel : Nat} {cs : List Value} {x : DataW H × List MemPlace}
 (h : DataW.trod enc P W 0 (fun _ => true) true fuel t cs = some x) (hw : ∀ n ∈ x.1.weights P t, n ≤ reachBytes) :
 cs.length = P.cellsOf t ∧ ∃ ks : List Nat, ks.sum ≤ Rows.uptoBulk x.1 ∧ ks.length = fs.size ∧ ∀ (i : Nat) (f : Field), fs[i]? = some f → ∀ {α : Type} {R : Nat → List Value → α → Prop}, OpensK P W f.type R → ∃ a, R (ks.getD i 0) ((cs.drop f.offset).take (P.cellsOf f.type)) a := by
 obtain ⟨xs, n, rfl, rfl, hl, hlen, hf⟩ := DataW.trod_struct ht h
 refine ⟨hl, xs.map (fun y => Rows.uptoBulk y.1), by simp only [Rows.uptoBulk, bulkAll_map]; omega, by simpa using hlen, fun i f hif α R hR => ?_⟩
 have h1 := hf i f hif
 have hi : i < xs.length := by rw [hlen]; exact (Array.getElem?_eq_some_iff.1 hif).1
 rw [List.getElem?_eq_getElem hi] at h1
 have hk : (xs.map (fun y => Rows.uptoBulk y.1)).getD i 0 = Rows.uptoBulk xs[i].1 := by simp [hi]
 rw [hk]
 refine hR H enc n _ _ h1 (fun m hm => hw m ?_)
 simp only [DataW.weights, ht]
 refine weightsEach_mem (i := i) (t := f.type) (d := xs[i].1) ?_ ?_ hm
 · rw [List.getElem?_map]
   have : fs.toList[i]? = some f := by simpa using hif
   rw [this]; rfl
 · rw [List.getElem?_map, List.getElem?_eq_getElem hi]; rfl
theorem Sl.mapK {α : Type} {C : World → Nat → Nat → α × Nat → Prop} {D : World → Nat → Nat → α → Prop} {w : World} {size n : Nat} {A : Option Addr} {l : List (α × Nat)} (h : Sl w size C A n l) (hcd : ∀ b o p, C w b o p → D w b o p.1) : Sl w size D A n (l.map (·.1)) := by
 refine ⟨by simpa using h.1, fun hn => ?_⟩
 obtain ⟨b, off, hA, hc⟩ := h.2 hn
 refine ⟨b, off, hA, fun i x hx => ?_⟩
 rw [List.getElem?_map, Option.map_eq_some_iff] at hx
 obtain ⟨p, hp, rfl⟩ := hx
 exact hcd _ _ _ (hc i p hp)
theorem sum_le_of {α : Type} {f : α → Nat} : ∀ {l : List (α × Nat)}, (∀ p ∈ l, f p.1 ≤ p.2) → ((l.map (·.1)).map f).sum ≤ (l.map (·.2)).sum
 | [], _ => by simp
 | p :: l, h => by
  have h1 := h p (List.mem_cons_self ..)
  have h2 := sum_le_of (l := l) fun q hq => h q (List.mem_cons_of_mem _ hq)
  simp only [List.map_cons, List.sum_cons]
  omega
theorem le_sum {α : Type} {f : α → Nat} : ∀ {l : List α} {x : α}, x ∈ l → f x ≤ (l.map f).sum
 | [], _, h => by cases h
 | y :: l, x, h => by
  simp only [List.map_cons, List.sum_cons]
  cases List.mem_cons.1 h with
  | inl e => subst e; omega
  | inr e => have := le_sum (f := f) e; omega
set_option maxRecDepth 100000
theorem openK_style (W : World) : OpensK Tryz.prog W 81 (fun _ cs (a : Int × Bool × Bool) => cs = [.int .u8 a.1, .bool a.2.1, .bool a.2.2] ∧ 0 ≤ a.1 ∧ a.1 ≤ 255) := .of (open_style W)
def runBulk (r : Run) : Nat := r.text.size + r.ruby.size
def rowBulk (r : Row) : Nat := (r.map runBulk).sum
def rowsBulk (l : List Row) : Nat := (l.map rowBulk).sum
theorem rowBytes_le (r : Row) : rowBytes r ≤ rowBulk r := by
 unfold rowBytes rowBulk
 induction r with
 | nil => simp
 | cons x r ih => simp only [List.map_cons, List.sum_cons, runBulk]; omega
def Ev.bulk (e : Ev) : Nat := rowsBulk e.rows + e.region.size + e.speaker.size
theorem cells_region : Tryz.prog.cellsOf 53 = 7 := by kernel_rfl
theorem bytes_region : Tryz.prog.bytesOf 53 = 56 := by kernel_rfl
theorem open_region (W : World) : Opens Tryz.prog W 53 (fun cs (r : Reg) => cs = [.string r.name, .int .i64 r.top, .int .i64 r.height, .int .i64 r.left, .int .i64 r.width, .int .u8 r.align, .bool r.bottom] ∧ r.name.size ≤ 140737488351232) := by
 intro H enc fuel cs x h hw
 obtain ⟨hl, hf⟩ := Opens.fields Tryz.underlying53 h hw
 rw [cells_region] at hl
 obtain ⟨v0, v1, v2, v3, v4, v5, v6, rfl⟩ := list_7 hl
 obtain ⟨a0, h0, s0⟩ := hf 0 _ rfl (Opens.string Tryz.underlying9)
 obtain ⟨a1, h1, s1⟩ := hf 1 _ rfl (Opens.int Tryz.underlying3)
 obtain ⟨a2, h2, s2⟩ := hf 2 _ rfl (Opens.int Tryz.underlying3)
 obtain ⟨a3, h3, s3⟩ := hf 3 _ rfl (Opens.int Tryz.underlying3)
 obtain ⟨a4, h4, s4⟩ := hf 4 _ rfl (Opens.int Tryz.underlying3)
 obtain ⟨a5, h5, s5⟩ := hf 5 _ rfl (Opens.int Tryz.underlying51)
 obtain ⟨a6, h6⟩ := hf 6 _ rfl (Opens.bool Tryz.underlying4)
 simp [cells_string, cells_int, cells_bool, show Tryz.prog.cellsOf 51 = 1 by kernel_rfl] at h0 h1 h2 h3 h4 h5 h6
 subst h0 h1 h2 h3 h4 h5 h6
 exact ⟨⟨a0, a1, a2, a3, a4, a5, a6⟩, rfl, s0⟩
end
section
open Go.RowKit Go.ChangeShapes Go.WideShapes Go.ChangeAt
set_option maxRecDepth 100000
theorem cells_comment : Tryz.prog.cellsOf 64 = 8 := by kernel_rfl
theorem cells_document : Tryz.prog.cellsOf 27 = 8 := by kernel_rfl
theorem bytes_comment : Tryz.prog.bytesOf 64 = 72 := by kernel_rfl
theorem bytes_event : Tryz.prog.bytesOf 60 = 88 := by kernel_rfl
theorem cells_rateD : Tryz.prog.cellsOf 22 = 1 := by kernel_rfl
theorem cells_regs : Tryz.prog.cellsOf 23 = 1 := by kernel_rfl
theorem cells_evts : Tryz.prog.cellsOf 24 = 1 := by kernel_rfl
theorem cells_coms : Tryz.prog.cellsOf 25 = 1 := by kernel_rfl
def Ev.Nums (e : Ev) : Prop := IW e.id ∧ IW e.inn ∧ IW e.out ∧ 0 ≤ e.kind ∧ e.kind ≤ 255
def Com.Nums (c : Com) : Prop := IW c.id ∧ IW c.ev ∧ IW c.fr ∧ IW c.til
theorem openK_com (W : World) : OpensK Tryz.prog W 64 (fun k cs (c : Com) => cs = c.vals ∧ c.author.size + c.text.size + 2 ≤ k ∧ c.Nums) := by
 intro H enc fuel cs x h hw
 obtain ⟨hl, ks, hks, hkl, hf⟩ := OpensK.fields Tryz.underlying64 h hw
 rw [cells_comment] at hl
 obtain ⟨v0, v1, v2, v3, v4, v5, v6, v7, rfl⟩ := list_8 hl
 obtain ⟨k0, k1, k2, k3, k4, k5, k6, k7, rfl⟩ := list_8 (show ks.length = 8 from hkl)
 obtain ⟨a0, h0, s0⟩ := hf 0 _ rfl (.of (Opens.int Tryz.underlying2))
 obtain ⟨a1, h1, s1⟩ := hf 1 _ rfl (.of (Opens.int Tryz.underlying2))
 obtain ⟨a2, h2, s2⟩ := hf 2 _ rfl (.of (Opens.int Tryz.underlying3))
 obtain ⟨a3, h3, s3⟩ := hf 3 _ rfl (.of (Opens.int Tryz.underlying3))
 obtain ⟨a4, h4, s4⟩ := hf 4 _ rfl (OpensK.string Tryz.underlying9)
 obtain ⟨a5, h5, s5⟩ := hf 5 _ rfl (OpensK.string Tryz.underlying9)
 obtain ⟨a6, h6⟩ := hf 6 _ rfl (.of (Opens.bool Tryz.underlying4))
 obtain ⟨a7, h7⟩ := hf 7 _ rfl (.of (Opens.bool Tryz.underlying4))
 have n0 := bounds_i64 s0
 have n1 := bounds_i64 s1
 have n2 := bounds_i64 s2
 have n3 := bounds_i64 s3
 simp [cells_int64, cells_int, cells_string, cells_bool] at h0 h1 h2 h3 h4 h5 h6 h7 s4 s5 hks
 subst h0 h1 h2 h3 h4 h5 h6 h7
 exact ⟨⟨a0, a1, a2, a3, a4, a5, a6, a7⟩, rfl, by simp only; omega, n0, n1, n2, n3⟩
structure DocIn (d : Doc) (h : DocH) : Prop where
 fit : DocFit d
 nums : ∀ e ∈ d.evs, e.Nums
 cnums : ∀ c ∈ d.coms, c.Nums
 last : IW d.last
 rn : h.rn ≤ 9223372036854775807
 en : h.en ≤ 1000000
 cn : h.cn ≤ 1000000
 rc : h.rn ≤ h.rc ∧ h.rn * 56 ≤ 140737488355328
 ec : h.en ≤ h.ec
 cc : h.cn ≤ h.cc
theorem sum_ge {α : Type} {n : Nat} : ∀ {l : List (α × Nat)}, (∀ p ∈ l, n ≤ p.2) → l.length * n ≤ (l.map (·.2)).sum
 | [], _ => by simp
 | p :: l, h => by
  have h1 := h p (List.mem_cons_self ..)
  have h2 := sum_ge (l := l) fun q hq => h q (List.mem_cons_of_mem _ hq)
  simp only [List.length_cons, List.map_cons, List.sum_cons, Nat.add_mul]
  omega
theorem mem_le {α : Type} : ∀ {l : List (α × Nat)} {p : α × Nat}, p ∈ l → p.2 ≤ (l.map (·.2)).sum
 | [], _, h => by cases h
 | q :: l, p, h => by
  simp only [List.map_cons, List.sum_cons]
  cases List.mem_cons.1 h with
  | inl e => subst e; omega
  | inr e => have := mem_le e; omega
theorem ev_small {e : Ev} (h : e.bulk ≤ 1048576) : EvSmall e ∧ e.bytes ≤ 1099511627776 := by
 unfold Ev.bulk at h
 have hrow : ∀ r ∈ e.rows, rowBulk r ≤ 1048576 := fun r hr => by
  have := le_sum (f := rowBulk) hr
  unfold rowsBulk at h
  omega
 refine ⟨⟨by omega, by omega, fun r hr => ⟨?_, fun x hx => ?_⟩⟩, ?_⟩
 · have h1 := hrow r hr
   have h2 := rowBytes_le r
   omega
 · have h1 := hrow r hr
   have h2 := le_sum (f := runBulk) hx
   unfold rowBulk at h1
   have h3 : runBulk x = x.text.size + x.ruby.size := rfl
   omega
 · have key : ∀ l : List Row, (l.map rowBytes).sum ≤ rowsBulk l := fun l => by
    unfold rowsBulk
    induction l with
    | nil => simp
    | cons y l ih => have := rowBytes_le y; simp only [List.map_cons, List.sum_cons]; omega
   have := key e.rows
   unfold Ev.bytes
   omega
end
section
open Go.RowKit Go.ChangeShapes Go.WideShapes Go.ChangeAt
set_option maxRecDepth 100000
theorem openK_runT (W : World) : OpensK Tryz.prog W 83 (fun k cs (r : Run) => cs = [.string r.text, .int .u8 r.color, .bool r.italic, .bool r.under, .string r.ruby] ∧ r.text.size + r.ruby.size ≤ k ∧ 0 ≤ r.color) := by
 intro H enc fuel cs x h hw
 obtain ⟨hl, ks, hks, hkl, hf⟩ := OpensK.fields Tryz.underlying83 h hw
 rw [cells_run] at hl
 obtain ⟨v0, v1, v2, v3, v4, rfl⟩ := list_5 hl
 obtain ⟨k0, k1, k2, rfl⟩ := list_3 (show ks.length = 3 from hkl)
 obtain ⟨a0, h0, s0⟩ := hf 0 _ rfl (OpensK.string Tryz.underlying9)
 obtain ⟨⟨a1, a2, a3⟩, h1, s1⟩ := hf 1 _ rfl (openK_style W)
 obtain ⟨a4, h4, s4⟩ := hf 2 _ rfl (OpensK.string Tryz.underlying9)
 simp [cells_string, cells_style] at h0 h1 h4 s0 s4
 obtain ⟨h1, h2, h3⟩ := h1
 subst h0 h1 h2 h3 h4
 simp at hks
 exact ⟨⟨a0, a1, a2, a3, a4⟩, rfl, by simp only; omega, s1.1⟩
theorem openK_rowT (W : World) : OpensK Tryz.prog W 78 (fun k cs (r : Row) => (∃ A n c, cs = [.slice A n c] ∧ n ≤ c ∧ n * 40 ≤ 140737488355328 ∧ RunsAt W A n r) ∧ rowBulk r ≤ k ∧ ∀ x ∈ r, 0 ≤ x.color) := by
 intro H enc fuel cs x h hw
 obtain ⟨hl, ks, hks, hkl, hf⟩ := OpensK.fields Tryz.underlying78 h hw
 rw [cells_row] at hl
 obtain ⟨v0, rfl⟩ := list_1 hl
 obtain ⟨k0, rfl⟩ := list_1 (show ks.length = 1 from hkl)
 obtain ⟨r, h0, hb, hcol⟩ := hf 0 _ rfl (R := fun k cs (r : Row) => (∃ A n c, cs = [.slice A n c] ∧ n ≤ c ∧ n * 40 ≤ 140737488355328 ∧ RunsAt W A n r) ∧ rowBulk r ≤ k ∧ ∀ x ∈ r, 0 ≤ x.color) (fun H enc fuel cs x h hw => by
  obtain ⟨A, n, c, l, rfl, hnc, _, hb, hs, hk⟩ := OpensK.slice Tryz.underlying76 cells_run (by decide) bytes_run (openK_runT W) h hw
  have hn : n * 40 ≤ 140737488355328 := by simp only [reachBytes] at hb; omega
  refine ⟨l.map (fun p : Run × Nat => p.1), ⟨A, n, c, rfl, hnc, hn, Sl.mapK (D := RunC) hs fun b o p hm => ?_⟩, ?_, fun x hx => ?_⟩
  · obtain ⟨cs, h1, h2, _⟩ := hm
    subst h2
    exact ⟨h1 0 _ rfl, h1 1 _ rfl, h1 2 _ rfl, h1 3 _ rfl, h1 4 _ rfl⟩
  · have := sum_le_of (f := runBulk) (l := l) (fun p hp => by
     have := hs.all (p := fun p => runBulk p.1 ≤ p.2) (fun b o q hm => by obtain ⟨_, _, _, h3, _⟩ := hm; exact h3) p hp
     exact this)
    unfold rowBulk
    omega
  · obtain ⟨p, hp, rfl⟩ := List.mem_map.1 hx
    exact hs.all (p := fun p : Run × Nat => 0 ≤ p.1.color) (fun b o q hm => by obtain ⟨_, _, _, _, h4⟩ := hm; exact h4) p hp)
 simp [cells_runs] at h0 hb hks
 exact ⟨r, by simpa using h0, by omega, hcol⟩
theorem openK_eventT (W : World) : OpensK Tryz.prog W 60 (fun k cs (e : Ev) => (∃ A n c, cs = (e.cells A n c).toList ∧ EvAt W e A n c) ∧ e.bulk + 2 ≤ k ∧ e.Nums ∧ ∀ r ∈ e.rows, ∀ x ∈ r, 0 ≤ x.color) := by
 intro H enc fuel cs x h hw
 obtain ⟨hl, ks, hks, hkl, hf⟩ := OpensK.fields Tryz.underlying60 h hw
 rw [cells_event] at hl
 obtain ⟨v0, v1, v2, v3, v4, v5, v6, rfl⟩ := list_7 hl
 obtain ⟨k0, k1, k2, k3, k4, k5, rfl⟩ := list_6 (show ks.length = 6 from hkl)
 obtain ⟨a0, h0, s0⟩ := hf 0 _ rfl (.of (Opens.int Tryz.underlying2))
 obtain ⟨⟨a1, a2⟩, h1, s1, s2⟩ := hf 1 _ rfl (.of (open_span W))
 obtain ⟨a3, h3, s3⟩ := hf 2 _ rfl (OpensK.string Tryz.underlying9)
 obtain ⟨a4, h4, s4⟩ := hf 3 _ rfl (.of (Opens.int Tryz.underlying57))
 obtain ⟨a5, h5, s5⟩ := hf 4 _ rfl (OpensK.string Tryz.underlying9)
 obtain ⟨rows, h6, hb6, hcol⟩ := hf 5 _ rfl (R := fun k cs (r : List Row) => (∃ A n c, cs = [.slice A n c] ∧ n ≤ c ∧ n * 24 ≤ 140737488355328 ∧ RowsAt W A n r) ∧ rowsBulk r ≤ k ∧ ∀ y ∈ r, ∀ x ∈ y, 0 ≤ x.color) (fun H enc fuel cs x h hw => by
  obtain ⟨A, n, c, l, rfl, hnc, _, hb, hs, hk⟩ := OpensK.slice Tryz.underlying58 cells_row (by decide) bytes_row (openK_rowT W) h hw
  have hn : n * 24 ≤ 140737488355328 := by simp only [reachBytes] at hb; omega
  refine ⟨l.map (fun p : Row × Nat => p.1), ⟨A, n, c, rfl, hnc, hn, Sl.mapK (D := RowC) hs fun b o p hm => ?_⟩, ?_, fun y hy => ?_⟩
  · obtain ⟨cs, h1, ⟨A', n', c', h2, h3⟩, _⟩ := hm
    subst h2
    exact ⟨A', n', c', h1 0 _ rfl, h3⟩
  · have := sum_le_of (f := rowBulk) (l := l) (fun p hp => hs.all (p := fun p => rowBulk p.1 ≤ p.2) (fun b o q hm => by obtain ⟨_, _, _, h3, _⟩ := hm; exact h3) p hp)
    unfold rowsBulk
    omega
  · obtain ⟨p, hp, rfl⟩ := List.mem_map.1 hy
    exact hs.all (p := fun p : Row × Nat => ∀ x ∈ p.1, 0 ≤ x.color) (fun b o q hm => by obtain ⟨_, _, _, _, h4⟩ := hm; exact h4) p hp)
 have n0 := bounds_i64 s0
 have n4 := bounds_u8 s4
 simp [cells_int64, cells_string, cells_span, cells_kind, cells_rows] at h0 h1 h3 h4 h5 h6 s3 s5 hb6 hks
 obtain ⟨h1, h2⟩ := h1
 obtain ⟨A, n, c, h6, hnc, hn, hr⟩ := h6
 subst h0 h1 h2 h3 h4 h5 h6
 exact ⟨⟨a0, a1, a2, a3, a4, a5, rows⟩, ⟨A, n, c, rfl, hr, hnc, hn⟩, by unfold Ev.bulk; simp only; omega, ⟨n0, s1, s2, n4.1, n4.2⟩, hcol⟩
theorem argK_docT {H : Type} {enc : TypeId × Value → H} {W : World} {base : Nat} {v : Value} {d : DataW H} {p : List MemPlace} (hv : Value.okWide Tryz.prog W .any base 27 v) (h : DataW.Trod enc Tryz.prog W 0 (fun _ => true) true 27 v d p)
 (hw : ∀ n ∈ d.weights Tryz.prog 27, n ≤ reachBytes) (hk : Rows.uptoBulk d ≤ 1048576) : ∃ d' h', v = .agg (Doc.cells d' h') ∧ DocAt W d' h' ∧ DocIn d' h' ∧ d'.title.size ≤ 1048576 ∧ ∀ e ∈ d'.evs, e.bulk ≤ 1048576 ∧ ∀ r ∈ e.rows, ∀ x ∈ r, 0 ≤ x.color := by
 obtain ⟨cs, rfl⟩ := agg_of_cells Tryz.underlying27 hv
 obtain ⟨fuel, h⟩ := h
 obtain ⟨hl, ks, hks, hkl, hf⟩ := OpensK.fields Tryz.underlying27 h hw
 rw [cells_document] at hl
 obtain ⟨v0, v1, v2, v3, v4, v5, v6, v7, he⟩ := list_8 hl
 obtain ⟨k0, k1, k2, k3, k4, k5, k6, k7, rfl⟩ := list_8 (show ks.length = 8 from hkl)
 obtain ⟨a0, h0, s0⟩ := hf 0 _ rfl (OpensK.string Tryz.underlying9)
 obtain ⟨a1, h1, s1⟩ := hf 1 _ rfl (OpensK.string Tryz.underlying9)
 obtain ⟨a2, h2, s2⟩ := hf 2 _ rfl (.of (Opens.int Tryz.underlying22))
 obtain ⟨a3, h3⟩ := hf 3 _ rfl (.of (Opens.bool Tryz.underlying4))
 obtain ⟨a4, h4, s4⟩ := hf 4 _ rfl (.of (Opens.int Tryz.underlying2))
 obtain ⟨⟨regs, A5, n5, c5⟩, h5, r5, r6, r7, r8⟩ := hf 5 _ rfl (R := fun k cs (r : List Reg × Option Addr × Nat × Nat) => cs = [.slice r.2.1 r.2.2.1 r.2.2.2] ∧ r.2.2.1 ≤ r.2.2.2 ∧ r.2.2.1 * 56 ≤ 140737488355328 ∧ RegsAt W r.2.1 r.2.2.1 r.1 ∧ RegsSmall r.1) (fun H enc fuel cs x h hw => by
  obtain ⟨A, n, c, l, hc, hnc, hcm, hb, hs⟩ := Opens.slice Tryz.underlying23 cells_region (by decide) bytes_region (open_region W) h hw
  refine ⟨(l, A, n, c), hc, hnc, (show n * 56 ≤ 140737488355328 by simp only [reachBytes] at hb; omega), Sl.change (D := RegC) hs fun b o r hm => ?_, show ∀ r ∈ l, r.name.size ≤ 9223372036854775807 from hs.all (p := fun r : Reg => r.name.size ≤ 9223372036854775807) fun b o r hm => ?_⟩
  · obtain ⟨cs, h1, h2, _⟩ := hm
    subst h2
    exact ⟨h1 0 _ rfl, h1 1 _ rfl, h1 2 _ rfl, h1 3 _ rfl, h1 4 _ rfl, h1 5 _ rfl, h1 6 _ rfl⟩
  · obtain ⟨cs, _, _, h3⟩ := hm
    omega)
 obtain ⟨⟨evs, A6, n6, c6⟩, h6, e5, e6, e7, e8⟩ := hf 6 _ rfl (R := fun k cs (r : List Ev × Option Addr × Nat × Nat) => cs = [.slice r.2.1 r.2.2.1 r.2.2.2] ∧ r.2.2.1 ≤ r.2.2.2 ∧ r.2.2.1 * 2 ≤ k ∧ EvsAt W r.2.1 r.2.2.1 r.1 ∧ ∀ e ∈ r.1, e.bulk ≤ k ∧ e.Nums ∧ ∀ r ∈ e.rows, ∀ x ∈ r, 0 ≤ x.color) (fun H enc fuel cs x h hw => by
  obtain ⟨A, n, c, l, hc, hnc, hcm, hb, hs, hk⟩ := OpensK.slice Tryz.underlying24 cells_event (by decide) bytes_event (openK_eventT W) h hw
  have hall := hs.all (p := fun p : Ev × Nat => p.1.bulk + 2 ≤ p.2 ∧ p.1.Nums ∧ ∀ r ∈ p.1.rows, ∀ x ∈ r, 0 ≤ x.color) (fun b o q hm => by obtain ⟨_, _, _, h3, h4⟩ := hm; exact ⟨h3, h4⟩)
  have h2 := sum_ge (n := 2) (l := l) (fun p hp => by have := (hall p hp).1; omega)
  have hln : l.length = n := hs.len
  refine ⟨(l.map (fun p : Ev × Nat => p.1), A, n, c), hc, hnc, (show n * 2 ≤ _ by omega), Sl.mapK (D := EvC) hs fun b o p hm => ?_, fun e he => ?_⟩
  · obtain ⟨cs, h1, ⟨A', n', c', h2, h3⟩, _⟩ := hm
    subst h2
    exact ⟨A', n', c', h1, h3⟩
  · obtain ⟨p, hp, rfl⟩ := List.mem_map.1 he
    have h3 := hall p hp
    have h4 := mem_le hp
    exact ⟨by omega, h3.2⟩)
 obtain ⟨⟨coms, A7, n7, c7⟩, h7, m5, m6, m7, m8⟩ := hf 7 _ rfl (R := fun k cs (r : List Com × Option Addr × Nat × Nat) => cs = [.slice r.2.1 r.2.2.1 r.2.2.2] ∧ r.2.2.1 ≤ r.2.2.2 ∧ r.2.2.1 * 2 ≤ k ∧ ComsAt W r.2.1 r.2.2.1 r.1 ∧ ∀ c ∈ r.1, c.author.size + c.text.size ≤ k ∧ c.Nums) (fun H enc fuel cs x h hw => by
  obtain ⟨A, n, c, l, hc, hnc, hcm, hb, hs, hk⟩ := OpensK.slice Tryz.underlying25 cells_comment (by decide) bytes_comment (openK_com W) h hw
  have hall := hs.all (p := fun p : Com × Nat => p.1.author.size + p.1.text.size + 2 ≤ p.2 ∧ p.1.Nums) (fun b o q hm => by obtain ⟨_, _, _, h3, h4⟩ := hm; exact ⟨h3, h4⟩)
  have h2 := sum_ge (n := 2) (l := l) (fun p hp => by have := (hall p hp).1; omega)
  have hln : l.length = n := hs.len
  refine ⟨(l.map (fun p : Com × Nat => p.1), A, n, c), hc, hnc, (show n * 2 ≤ _ by omega), Sl.mapK (D := Cells Com.vals) hs fun b o p hm => ?_, fun e he => ?_⟩
  · obtain ⟨cs, h1, h2, _⟩ := hm
    subst h2
    exact h1
  · obtain ⟨p, hp, rfl⟩ := List.mem_map.1 he
    have h3 := hall p hp
    have h4 := mem_le hp
    exact ⟨by omega, h3.2⟩)
 rw [he] at h0 h1 h2 h3 h4 h5 h6 h7
 simp [cells_string, cells_bool, cells_int64, cells_rateD, cells_regs, cells_evts, cells_coms] at h0 h1 h2 h3 h4 h5 h6 h7 s0 s1 e6 e8 m6 m8 hks
 have n2 := bounds_u8 s2
 subst h0 h1 h2 h3 h4 h5 h6 h7
 dsimp only at *
 refine ⟨⟨a0, a1, a2, a3, a4, regs, evs, coms⟩, ⟨A5, n5, c5, A6, n6, c6, A7, n7, c7⟩, ?_, ⟨r7, e7, m7⟩, ⟨⟨⟨n2.1, n2.2, by simp only; omega, by simp only; omega⟩, r8, fun e hm => ev_small (by have := (e8 e hm).1; omega), fun e hm => (e8 e hm).2.1.1, fun c hm => ⟨(m8 c hm).2.1, (m8 c hm).2.2.1, by have := (m8 c hm).1; omega, by have := (m8 c hm).1; omega⟩⟩, fun e hm => (e8 e hm).2.1, fun c hm => (m8 c hm).2, bounds_i64 s4, by simp only; omega, by simp only; omega, by simp only; omega, ⟨r5, r6⟩, e5, m5⟩, by simp only; omega, fun e hm => ⟨by have := (e8 e hm).1; omega, (e8 e hm).2.2⟩⟩
 have : cs = (Doc.cells ⟨a0, a1, a2, a3, a4, regs, evs, coms⟩ ⟨A5, n5, c5, A6, n6, c6, A7, n7, c7⟩) := Array.toList_inj.1 he
 rw [this]
end
section
open Go.RowKit
theorem few_fit {d : Doc} (h : DocFit d) : DocFit (few d) :=
 ⟨⟨h.ok.r0, h.ok.r1, h.ok.title, h.ok.lang⟩, fun r hr => h.regs r (List.mem_of_mem_take hr), fun e he => h.evs e (List.mem_of_mem_take he), fun e he => h.ids e (List.mem_of_mem_take he), fun c hc => h.coms c (List.mem_of_mem_take hc)⟩
theorem bare_fit {d : Doc} (h : DocFit d) : DocFit { d with coms := [] } :=
 ⟨⟨h.ok.r0, h.ok.r1, h.ok.title, h.ok.lang⟩, h.regs, h.evs, h.ids, fun c hc => by simp at hc⟩
theorem bare_tm {d : Doc} (h : TmOk d) : TmOk { d with coms := [] } := ⟨h.title, h.lang, h.rate, h.last, h.regs, h.evs⟩
theorem bare_few {d : Doc} (h : DocFew d) : DocFew { d with coms := [] } := ⟨h.title, h.lang, h.regs, h.evs⟩
theorem nameB_few {s : ByteArray} (h : nameB s = true) : s.size ≤ 16 := by
 unfold nameB at h
 simp only [Bool.and_eq_true, decide_eq_true_eq] at h
 exact h.1.1.2
theorem opt_few {s : ByteArray} (h : ¬ (s.toList.isEmpty = false ∧ nameB s = false)) : s.size ≤ 16 := by
 cases hn : nameB s with
 | true => exact nameB_few hn
 | false =>
  have he : s.toList.isEmpty = true := by cases he : s.toList.isEmpty <;> simp_all
  have h0 : s.toList = [] := by simpa using he
  rw [ByteArray.toList_eq] at h0
  have := size_toList s
  rw [h0] at this
  simp at this
  omega
theorem few_small {d : Doc} (hz : d.err = 0) (hb : ∀ e ∈ d.evs, e.bulk ≤ 1048576) : DocFew d := by
 obtain ⟨h1, h2, -, -, -, -⟩ := doc_ok hz
 obtain ⟨a1, a2, a3, -, -⟩ := head_ok' h1
 have hr : ∀ r ∈ d.regs, r.check = 0 := by
  unfold regsErr at h2
  split at h2
  · omega
  · exact tm_regs h2
 refine ⟨by omega, by have := opt_few a3; omega, fun r hm => by have := nameB_few (RegOk.of (hr r hm)).name; omega, fun e he => ?_⟩
 have h := hb e he
 unfold Ev.bulk at h
 refine ⟨by omega, by omega, fun r hr x hx => ?_⟩
 have h3 := le_sum (f := rowBulk) hr
 have h4 := le_sum (f := runBulk) hx
 unfold rowsBulk at h
 unfold rowBulk at h3
 have h5 : runBulk x = x.text.size + x.ruby.size := rfl
 unfold rowBulk at h
 omega
set_option maxHeartbeats 8000000 in
set_option maxRecDepth 100000 in
theorem TopCM_any (d : Doc) (h : DocH) (w : World) (hT : TmW w) (hat : DocAt w d h) (hin : DocIn d h) (hb : ∀ e ∈ d.evs, e.bulk ≤ 1048576 ∧ ∀ r ∈ e.rows, ∀ x ∈ r, 0 ≤ x.color) :
 Calls Tryz.prog 3 #[.agg (d.cells h)] w fun e w' => e = .returned (.bool true) ∧ Ext w w' := by
 have HH := Lib.hid (fun w' => houseFew_any d h w' hin.rc.1 hin.ec hin.cc)
 obtain ⟨d1, hd1⟩ : ∃ d1, d1 = few d := ⟨_, rfl⟩
 obtain ⟨h1, hh1⟩ : ∃ h1, h1 = fewH h := ⟨_, rfl⟩
 have hat1 : DocAt w d1 h1 := by rw [hd1, hh1]; exact few_at hat
 have hf1 : DocFit d1 := by rw [hd1]; exact few_fit hin.fit
 have hr1 : h1.rn ≤ 4 := by rw [hh1]; exact Nat.min_le_right _ _
 have he1 : h1.en ≤ 4 := by rw [hh1]; exact Nat.min_le_right _ _
 have hc1 : h1.cn ≤ 3 := by rw [hh1]; exact Nat.min_le_right _ _
 have hb1 : ∀ e ∈ d1.evs, e.bulk ≤ 1048576 ∧ ∀ r ∈ e.rows, ∀ x ∈ r, 0 ≤ x.color := by rw [hd1]; exact fun e he => hb e (List.mem_of_mem_take he)
 rw [← hd1, ← hh1] at HH
 clear hd1 hh1 hb hin hat
 have HBad := Lib.hid (fun w' (hx : Ext w w') (hz : d1.err ≠ 0) => Encode_bad d1 h1 w' (hT.env.ext hx) (hat1.ext hx) hf1 hr1 he1 (by omega) hz)
 have HEn := Lib.hid (fun w' (hx : Ext w w') (hz : d1.err = 0) => Encode_ok d1 h1 w' (hT.ext hx) (hat1.ext hx) hf1 hr1 he1 (by omega) hz (tm_ok hz fun e he r hr x hx => (hb1 e he).2 r hr x hx) (few_small hz fun e he => (hb1 e he).1))
 have HDe := Lib.hid (fun w' (hx : Ext w w') (hz : d1.err = 0) (hl : (printL (nodesL d1)).length ≤ 262144) => Decode_ok d1 w' (hT.ext hx) (bare_fit hf1) (by have := hat1.regs.len; omega) (by have := hat1.evs.len; omega) hz (tm_ok hz fun e he r hr x hx => (hb1 e he).2 r hr x hx) (few_small hz fun e he => (hb1 e he).1) hl)
 have HEn2 := Lib.hid (fun w' (k : DocH) (hx : Ext w w') (hz : d1.err = 0) (ha : DocAt w' { d1 with coms := [] } k) (k1 : k.rn ≤ 4) (k2 : k.en ≤ 4) (k3 : k.cn = 0) => Encode_ok { d1 with coms := [] } k w' (hT.ext hx) ha (bare_fit hf1) k1 k2 (by omega) (bare_ok hz) (bare_tm (tm_ok hz fun e he r hr x hx => (hb1 e he).2 r hr x hx)) (bare_few (few_small hz fun e he => (hb1 e he).1)))
 have HA1 := Lib.hid hat1
 have hrl := hat1.regs.len
 have hel := hat1.evs.len
 clear hT hat1 hf1 hb1
 obtain ⟨ra, rn, rc, ea, en, ec, ca, cn, cc⟩ := h
 obtain ⟨ra1, rn1, rc1, ea1, en1, ec1, ca1, cn1, cc1⟩ := h1
 dsimp only at hr1 he1 hc1 hrl hel
 unfold Doc.cells at HH HBad HEn ⊢
 dsimp only at HH HBad HEn ⊢
 have HX0 := Lib.hid ((Ext.refl w).alloc (.cells #[.string d.title, .string d.lang, .int .u8 d.rate, .bool d.drop, .int .i64 d.last, .slice ra rn rc, .slice ea en ec, .slice ca cn cc] 27))
 have HB0 := Lib.hid (Blk.new w 27 #[.string d.title, .string d.lang, .int .u8 d.rate, .bool d.drop, .int .i64 d.last, .slice ra rn rc, .slice ea en ec, .slice ca cn cc])
 go_enter Tryz.func3, Tryz.ntmps3
 go_wp2_with (refine wpList_loadB rfl 27 (.tmp 1) rfl w.heap.size 27 _ _ (by exact rfl) (by exact HB0.out) Tryz.underlying27 rfl (by exact size_docX) ?_)
 refine (HH.out _).mono ?_
 rintro e w1 ⟨rfl, hx1⟩
 have HX1 := Lib.hid (HX0.out.trans hx1)
 have HB1 := Lib.hid (HB0.out.ext hx1)
 clear hx1
 have HP1 := Lib.hid (HB1.out.put #[.string d1.title, .string d1.lang, .int .u8 d1.rate, .bool d1.drop, .int .i64 d1.last, .slice ra1 rn1 rc1, .slice ea1 en1 ec1, .slice ca1 cn1 cc1])
 go_wp2_with (first | (refine wpList_storeB rfl 27 (.tmp 1) (.tmp 10) rfl w.heap.size 27 _ _ (by exact rfl) (by exact rfl) (by exact HB1.out) (by exact rfl) (by exact size_docX) (by simp [Value.oneCell']) ?_) | (refine wpList_loadB rfl 27 (.tmp 1) rfl w.heap.size 27 _ _ (by exact rfl) (by exact HP1.out) Tryz.underlying27 rfl (by exact size_docX) ?_))
 obtain ⟨w2, hw2⟩ : ∃ w2, w2 = putB w1 w.heap.size 27 #[.string d1.title, .string d1.lang, .int .u8 d1.rate, .bool d1.drop, .int .i64 d1.last, .slice ra1 rn1 rc1, .slice ea1 en1 ec1, .slice ca1 cn1 cc1] := ⟨_, rfl⟩
 rw [← hw2] at HP1 ⊢
 have HX2 : Hid (Ext w w2) := by show Ext _ _; rw [hw2]; exact HX1.out.put (Nat.le_refl _) _ _
 have HB2 := Lib.hid HP1.out
 clear hw2 HP1 HB1 HX1 HH HB0 HX0
 by_cases hz : d1.err = 0
 · have HZ := Lib.hid hz
   clear HBad hz
   by_cases hl : (printL (nodesL d1)).length ≤ 262144
   · have HL := Lib.hid hl
     refine (HEn.out _ HX2.out HZ.out).mono ?_
     rintro e w3 ⟨rfl, hx3⟩
     unfold encT
     rw [if_pos hl]
     have HX3 := Lib.hid (HX2.out.trans hx3)
     have HB3 := Lib.hid (HB2.out.ext hx3)
     clear hx3 hl
     have HDe' := Lib.hid (HDe.out w3 HX3.out HZ.out HL.out)
     have HEn2' : Hid (∀ w' (k : DocH), Ext w w' → DocAt w' { d1 with coms := [] } k → k.rn ≤ 4 → k.en ≤ 4 → k.cn = 0 → Calls Tryz.prog 5 #[.agg (({ d1 with coms := [] } : Doc).cells k)] w' fun e w2 => e = .returned (.tuple #[.string ⟨(printL (nodesL d1)).toArray⟩, .int .i64 0]) ∧ Ext w' w2) := fun w' k hx ha k1 k2 k3 => by
      have := HEn2.out w' k hx HZ.out ha k1 k2 k3
      unfold encT at this
      rw [bare_nodes, if_pos HL.out] at this
      exact this
     clear HDe HEn2 HEn
     obtain ⟨s, hs⟩ : ∃ s : ByteArray, s = ⟨(printL (nodesL d1)).toArray⟩ := ⟨_, rfl⟩
     rw [← hs] at HDe' HEn2' ⊢
     clear hs
     have hss : (s.toList == s.toList) = true := str_eqT rfl
     go_wp2_with fail
     refine HDe'.out.mono ?_
     rintro e w4 ⟨⟨ra2, rn2, rc2, ea2, en2, ec2, ca2, cn2, cc2⟩, rfl, hkp4, hx4, k1, k2, k3⟩
     dsimp only at k1 k2 k3
     have HX4 := Lib.hid (HX3.out.trans hx4)
     have HB4 := Lib.hid (HB3.out.ext hx4)
     have HK4 := Lib.hid hkp4
     have k1' : rn2 ≤ 4 := by omega
     have k2' : en2 ≤ 4 := by omega
     have HK1 := Lib.hid k1
     have HK2 := Lib.hid k2
     subst k3
     clear hx4 hkp4 k1 k2 HDe'
     unfold Doc.cells
     dsimp only
     have HBx := Lib.hid (Blk.new w4 27 #[.string d1.title, .string d1.lang, .int .u8 d1.rate, .bool d1.drop, .int .i64 d1.last, .slice ra2 rn2 rc2, .slice ea2 en2 ec2, .slice ca2 0 cc2])
     have hcx := fun o => HBx.out.cell o
     go_wp2_with fail
     have hx5 : Ext w4 (w4.alloc (.cells #[.string d1.title, .string d1.lang, .int .u8 d1.rate, .bool d1.drop, .int .i64 d1.last, .slice ra2 rn2 rc2, .slice ea2 en2 ec2, .slice ca2 0 cc2] 27)) := (Ext.refl w4).alloc _
     have hc2 := HEn2'.out _ ⟨ra2, rn2, rc2, ea2, en2, ec2, ca2, 0, cc2⟩ (HX4.out.trans hx5) (HK4.out.at_.ext hx5) k1' k2' rfl
     unfold Doc.cells at hc2
     dsimp only at hc2
     refine hc2.mono ?_
     rintro e w6 ⟨rfl, hx6⟩
     have HX46 := Lib.hid (hx5.trans hx6)
     have HX6 := Lib.hid (HX4.out.trans HX46.out)
     have HB6 := Lib.hid (HB4.out.ext HX46.out)
     have HBx6 := Lib.hid (HBx.out.ext hx6)
     have hne : w.heap.size ≠ w4.heap.size := by have := HB4.out.lt; omega
     clear hx5 hx6 hc2 hcx HEn2'
     obtain ⟨w7, hw7⟩ : ∃ w7, w7 = putB w6 w.heap.size 27 #[.string d1.title, .string d1.lang, .int .u8 d1.rate, .bool d1.drop, .int .i64 d1.last, .slice ra1 rn1 rc1, .slice ea1 en1 ec1, .slice none 0 0] := ⟨_, rfl⟩
     have hk7 : ∀ T : TypeId, T ≠ 27 → KB T w4 w7 := fun T hn => by rw [hw7]; exact (KB.ext HX46.out).trans (KB.put HB6.out hn)
     have HX7 : Hid (Ext w w7) := by show Ext _ _; rw [hw7]; exact HX6.out.put (Nat.le_refl _) _ _
     have hA := (HK4.out.go (hk7 _ (by decide)) (hk7 _ (by decide)) (hk7 _ (by decide)) (hk7 _ (by decide)) (by rw [hw7, putB_size]; exact HX46.out.size)).at_
     have hB : DocAt w7 { d1 with coms := [] } ⟨ra1, rn1, rc1, ea1, en1, ec1, none, 0, 0⟩ := ⟨HA1.out.regs.ext HX7.out, HA1.out.evs.ext HX7.out, Sl.nil⟩
     have hS := DSame_any _ _ _ _ w7 hA hB ⟨by dsimp only; omega, by dsimp only; omega, by dsimp only; omega⟩
     rw [sameDoc_self] at hS
     unfold Doc.cells at hS
     dsimp only at hS
     have HS := Lib.hid hS
     have hc6 := fun o => HB6.out.cell o
     have hf6 := fun o => HB6.out.frozen o
     have hs6 := setCell_put HB6.out 7 (.slice none 0 0)
     have hc7 := fun o => (HB6.out.put #[.string d1.title, .string d1.lang, .int .u8 d1.rate, .bool d1.drop, .int .i64 d1.last, .slice ra1 rn1 rc1, .slice ea1 en1 ec1, .slice none 0 0]).cell o
     have hx7 := fun o => (HBx6.out.put_other hne (t' := 27) #[.string d1.title, .string d1.lang, .int .u8 d1.rate, .bool d1.drop, .int .i64 d1.last, .slice ra1 rn1 rc1, .slice ea1 en1 ec1, .slice none 0 0]).cell o
     clear hA hB hS hk7
     have HW7 := Lib.hid hw7
     clear hw7
     go_wp2_with fail
     rw [← HW7.out]
     refine HS.out.mono ?_
     rintro e w8 ⟨rfl, hx8⟩
     have HX8 := Lib.hid (HX7.out.trans hx8)
     clear hx8 hc6 hf6 hs6 hc7 hx7
     go_wp2_with fail
     go_ret
     exact ⟨rfl, HX8.out⟩
   · refine (HEn.out _ HX2.out HZ.out).mono ?_
     rintro e w3 ⟨rfl, hx3⟩
     unfold encT
     rw [if_neg hl]
     have HX3 := Lib.hid (HX2.out.trans hx3)
     clear hx3 hl
     go_wp2_with fail
     go_ret
     exact ⟨rfl, HX3.out⟩
 · refine (HBad.out _ HX2.out hz).mono ?_
   rintro e w3 ⟨rfl, hx3⟩
   have HX3 := Lib.hid (HX2.out.trans hx3)
   have hz1 : (d1.err == 0) = false := beq_eq_false_iff_ne.2 hz
   have hz2 : (!(d1.err == 0)) = true := by rw [hz1]; rfl
   clear hx3
   go_wp2_with fail
   go_ret
   exact ⟨rfl, HX3.out⟩
end
section
open Go.RowKit Go.ChangeShapes Go.WideShapes Go.ChangeAt
set_option maxRecDepth 100000
def laid10 : List (String × DataW Unit) := [("math/bits.deBruijn32tab", Rows.laid_math_bits_deBruijn32tab), ("math/bits.deBruijn64tab", Rows.laid_math_bits_deBruijn64tab), ("internal/strconv.uint64pow10", Rows.laid_internal_strconv_uint64pow10), ("unicode/utf8.acceptRanges", Rows.laid_unicode_utf8_acceptRanges), ("strconv.ErrRange", Rows.laid_strconv_ErrRange), ("strconv.ErrSyntax", Rows.laid_strconv_ErrSyntax), ("captioner/xml.entities", Rows.laid_captioner_xml_entities), ("captioner/ttml.colors", Rows.laid_captioner_ttml_colors), ("captioner/ttml.aligns", Rows.laid_captioner_ttml_aligns), ("unicode/utf8.first", Rows.laid_unicode_utf8_first)]
theorem env_of10 {W : World} (h : laidMet Tryz.prog laid10 W) (hs : W.ShapedOpen Tryz.prog) : Env W := by
 refine ⟨?_, ?_⟩
 · have h1 := Lib.laidMet.reads h (n := "unicode/utf8.first") (d := Rows.laid_unicode_utf8_first) (by simp [laid10])
   have h2 := Lib.laidMet.reads h (n := "unicode/utf8.acceptRanges") (d := Rows.laid_unicode_utf8_acceptRanges) (by simp [laid10])
   rw [first_same] at h1
   rw [accept_same] at h2
   exact utf8Tabs_of_readsT (U8Types.of196 Tryz.laysValid) u8extra h1 h2
 · obtain ⟨cs, hh, hz, hr⟩ := hs.1 3 #[.int .i64 0] 3 (of_decide_eq_true (by kernel_rfl)) (by kernel_rfl)
   obtain ⟨ts, hts, _, hall⟩ := hr (by kernel_rfl)
   have h1 : 0 < cs.size := by rw [hz]; decide
   have e : Tryz.prog.cellTypes Tryz.prog.depth 3 = some [3] := by kernel_rfl
   rw [e] at hts
   cases hts
   obtain ⟨u, hu', hok⟩ := hall 0 cs[0] (by simp [h1])
   have : u = 3 := by simpa using hu'.symm
   subst this
   have hcell : W.cell? ⟨3, 0, none⟩ = some cs[0] := by simp [World.cell?, hh, h1]
   rw [hcell]
   unfold Cell.ok at hok
   rw [Tryz.underlying3] at hok
   cases hv : cs[0] <;> rw [hv] at hok <;> first | (simp at hok; done) | skip
   rename_i k m
   simp at hok
   exact ⟨m, by rw [hok.1]⟩
theorem tab_of10 {W : World} (h : laidMet Tryz.prog laid10 W) : TabX W := by
 obtain ⟨g', t', cs, fuel, p, hg', ht', hvar, hd⟩ := Lib.laidMet.reads h (n := "internal/strconv.uint64pow10") (d := Rows.laid_internal_strconv_uint64pow10) (by simp [laid10])
 have e1 : (Rows.laid_internal_strconv_uint64pow10 : DataW Unit) = Lib.tabData .u64 Lib.pow10Tab := by kernel_rfl
 have hgg : Tryz.prog.globalNamed "internal/strconv.uint64pow10" = some 6 := by kernel_rfl
 obtain rfl := Option.some.inj (hgg.symm.trans hg')
 have hty : (Tryz.prog.globals[6]?).map (·.type) = some 235 := by kernel_rfl
 obtain rfl := Option.some.inj (hty.symm.trans ht')
 rw [e1] at hd
 have hc := Lib.cells_of_tab Tryz.underlying235 Tryz.underlying204 (by kernel_rfl) (by kernel_rfl) hd
 unfold TabX Lib.TabIs
 rw [hvar]
 exact congrArg some (Array.toList_inj.1 (by simpa using hc))
theorem strs_of_tab {P : Program} {w : World} {fuel : Nat} {t e : TypeId} {n : Nat} {cs : List Value} {ss : List (List UInt8)} {p : List MemPlace}
 (ht : P.underlying t = some (.array n e)) (he : P.underlying e = some .string) (hce : P.cellsOf e = 1) (hct : P.cellsOf t = n)
 (h : DataW.trod (fun _ => ()) P w 0 (fun _ => true) false fuel t cs = some (.agg (ss.map fun s => .lit (.string s)), p)) : cs = ss.map fun s => Value.string ⟨s.toArray⟩ := by
 obtain ⟨xs, m, rfl, hx, hl, hn, hall⟩ := DataW.trod_array ht h
 rw [hct] at hl
 rw [hce] at hall
 injection hx with hx _
 injection hx with hx
 have hsl : ss.length = n := by
  have := congrArg List.length hx
  simpa [hn] using this
 apply List.ext_getElem?
 intro i
 by_cases hi : i < n
 · have ha := hall i hi
   obtain ⟨b, hb⟩ : ∃ b, xs[i]? = some b := ⟨_, List.getElem?_eq_getElem (by omega)⟩
   rw [hb] at ha
   obtain ⟨s, hc, rfl, _⟩ := DataW.trod_string he ha
   have h1 : cs[i]? = some (.string s) := by
    have := congrArg (·[0]?) hc
    simpa [List.getElem?_take, List.getElem?_drop] using this
   have h2 : (xs.map (·.1))[i]? = some (DataW.lit (.string s.data.toList)) := by simp [hb]
   rw [← hx] at h2
   simp only [List.getElem?_map, Option.map_eq_some_iff, DataW.lit.injEq, Lit.string.injEq] at h2
   obtain ⟨l, hl2, hl3⟩ := h2
   rw [h1, List.getElem?_map, hl2, hl3]
   rfl
 · rw [List.getElem?_eq_none (by omega), List.getElem?_eq_none (by simp; omega)]
theorem cells_of_laid {W : World} {n : String} {g : Nat} {T : TypeId} {cs cs' : Array Value} (hg : Tryz.prog.globalNamed n = some g) (hh : W.heap[g]? = some (.cells cs T (0, 0))) (hv : W.var? Tryz.prog n = some cs') : cs' = cs := by
 unfold World.var? at hv
 rw [hg] at hv
 simp [hh] at hv
 exact hv.symm
theorem tabS_of {W : World} {n : String} {g k : Nat} {T : TypeId} {ss : List (List UInt8)} {d : DataW Unit} {z : Array Value} (hs : W.ShapedOpen Tryz.prog) (h : Lib.VarReads Tryz.prog W n d) (hd : d = .agg (ss.map fun s => .lit (.string s)))
 (hz : ((begin Tryz.prog (fun _ _ => 0) default).world.heap[g]?).bind Obj.row? = some (z, T)) (hp : g < Tryz.prog.globals.size) (hgn : Tryz.prog.globalNamed n = some g) (hty : (Tryz.prog.globals[g]?).map (·.type) = some T)
 (ht : Tryz.prog.underlying T = some (.array k 9)) (hct : Tryz.prog.cellsOf T = k) : Blk W g T (ss.map fun s => Value.string ⟨s.toArray⟩).toArray := by
 obtain ⟨cs, hh, -, -⟩ := hs.1 g z T hp hz
 obtain ⟨g', t', cs', fuel, p, hg', ht', hvar, hdd⟩ := h
 obtain rfl := Option.some.inj (hgn.symm.trans hg')
 obtain rfl := Option.some.inj (hty.symm.trans ht')
 obtain rfl := cells_of_laid hgn hh hvar
 rw [hd] at hdd
 have hc := strs_of_tab ht Tryz.underlying9 (by kernel_rfl) hct hdd
 unfold Blk
 rw [hh, ← hc]
theorem ca_of10 {W : World} (h : laidMet Tryz.prog laid10 W) (hs : W.ShapedOpen Tryz.prog) : CaW W :=
 ⟨tabS_of (z := Array.replicate 7 (.string ⟨#[]⟩)) (ss := [[119, 104, 105, 116, 101], [103, 114, 101, 101, 110], [98, 108, 117, 101], [99, 121, 97, 110], [114, 101, 100], [121, 101, 108, 108, 111, 119], [109, 97, 103, 101, 110, 116, 97]]) hs (Lib.laidMet.reads h (n := "captioner/ttml.colors") (d := Rows.laid_captioner_ttml_colors) (by simp [laid10])) rfl (by kernel_rfl) (of_decide_eq_true (by kernel_rfl)) (by kernel_rfl) (by kernel_rfl) Tryz.underlying84 (by kernel_rfl),
  tabS_of (z := Array.replicate 3 (.string ⟨#[]⟩)) (ss := [[76, 69, 70, 84], [67, 69, 78, 84, 69, 82], [82, 73, 71, 72, 84]]) hs (Lib.laidMet.reads h (n := "captioner/ttml.aligns") (d := Rows.laid_captioner_ttml_aligns) (by simp [laid10])) rfl (by kernel_rfl) (of_decide_eq_true (by kernel_rfl)) (by kernel_rfl) (by kernel_rfl) Tryz.underlying73 (by kernel_rfl)⟩
def entL : List (List (List UInt8)) := [[[38, 97, 109, 112, 59], [38]], [[38, 108, 116, 59], [60]], [[38, 103, 116, 59], [62]], [[38, 113, 117, 111, 116, 59], [34]], [[38, 97, 112, 111, 115, 59], [39]]]
theorem ents_of10 {W : World} (h : laidMet Tryz.prog laid10 W) (hs : W.ShapedOpen Tryz.prog) : EntW W := by
 obtain ⟨cs, hh, -, -⟩ := hs.1 2 (Array.replicate 10 (.string ⟨#[]⟩)) 129 (of_decide_eq_true (by kernel_rfl)) (by kernel_rfl)
 obtain ⟨g', t', cs', fuel, p, hg', ht', hvar, hd⟩ := Lib.laidMet.reads h (n := "captioner/xml.entities") (d := Rows.laid_captioner_xml_entities) (by simp [laid10])
 have hgn : Tryz.prog.globalNamed "captioner/xml.entities" = some 2 := by kernel_rfl
 have hty : (Tryz.prog.globals[2]?).map (·.type) = some 129 := by kernel_rfl
 obtain rfl := Option.some.inj (hgn.symm.trans hg')
 obtain rfl := Option.some.inj (hty.symm.trans ht')
 obtain rfl := cells_of_laid hgn hh hvar
 have e1 : (Rows.laid_captioner_xml_entities : DataW Unit) = .agg (entL.map fun r => .agg (r.map fun s => .lit (.string s))) := rfl
 rw [e1] at hd
 obtain ⟨xs, m, rfl, hx, hl, hn, hall⟩ := DataW.trod_array Tryz.underlying129 hd
 rw [show Tryz.prog.cellsOf 129 = 10 by kernel_rfl] at hl
 rw [show Tryz.prog.cellsOf 128 = 2 by kernel_rfl] at hall
 injection hx with hx _
 injection hx with hx
 have key : ∀ (i : Nat) (r : List (List UInt8)), i < 5 → entL[i]? = some r → (cs'.toList.drop (i * 2)).take 2 = r.map fun s => Value.string ⟨s.toArray⟩ := fun i r hi hr => by
  have ha := hall i hi
  obtain ⟨b, hb⟩ : ∃ b, xs[i]? = some b := ⟨_, List.getElem?_eq_getElem (by omega)⟩
  rw [hb] at ha
  have h2 : (xs.map (·.1))[i]? = some (DataW.agg (r.map fun s => .lit (.string s))) := by
   rw [← hx, List.getElem?_map, hr]
   rfl
  rw [List.getElem?_map, hb] at h2
  have h3 : b.1 = .agg (r.map fun s => .lit (.string s)) := Option.some.inj h2
  obtain ⟨b1, b2⟩ := b
  dsimp only at h3
  subst h3
  exact strs_of_tab Tryz.underlying128 Tryz.underlying9 (by kernel_rfl) (by kernel_rfl) ha
 have k0 := key 0 _ (by decide) rfl
 have k1 := key 1 _ (by decide) rfl
 have k2 := key 2 _ (by decide) rfl
 have k3 := key 3 _ (by decide) rfl
 have k4 := key 4 _ (by decide) rfl
 have e : cs'.toList = (cs'.toList.drop (0 * 2)).take 2 ++ ((cs'.toList.drop (1 * 2)).take 2 ++ ((cs'.toList.drop (2 * 2)).take 2 ++ ((cs'.toList.drop (3 * 2)).take 2 ++ (cs'.toList.drop (4 * 2)).take 2))) := by
  apply List.ext_getElem?
  intro i
  by_cases hi : i < 10
  · have : i = 0 ∨ i = 1 ∨ i = 2 ∨ i = 3 ∨ i = 4 ∨ i = 5 ∨ i = 6 ∨ i = 7 ∨ i = 8 ∨ i = 9 := by omega
    rcases this with rfl | rfl | rfl | rfl | rfl | rfl | rfl | rfl | rfl | rfl <;> simp [List.getElem?_append, List.getElem?_take, List.getElem?_drop, hl]
  · rw [List.getElem?_eq_none (by omega), List.getElem?_eq_none (by simp [hl]; omega)]
 rw [k0, k1, k2, k3, k4] at e
 unfold EntW Blk
 rw [hh]
 have e2 : cs' = entC := Array.toList_inj.1 (by rw [e]; rfl)
 rw [e2]
theorem tmw_of10 {W : World} (h : laidMet Tryz.prog laid10 W) (hs : W.ShapedOpen Tryz.prog) : TmW W := ⟨env_of10 h hs, tab_of10 h, ca_of10 h hs, ents_of10 h hs⟩
def litVals : List (DataW Unit) → List Value
 | .lit (.int k z) :: r => .int k z :: litVals r
 | _ => []
def aggVals : DataW Unit → List Value
 | .agg l => litVals l
 | _ => []
def putG (h : Array Obj) (g : Nat) (cs : Array Value) : Array Obj := h.modify g fun
 | .cells _ t frozen => .cells cs t frozen
 | o => o
noncomputable def laidWorld10 (os : Os) : World :=
 let N := (World.settled Tryz.prog os).heap.size
 let w0 := World.holding Tryz.prog os ⟨#[.cells #[.string ⟨#[118, 97, 108, 117, 101, 32, 111, 117, 116, 32, 111, 102, 32, 114, 97, 110, 103, 101]⟩] 313, .cells #[.string ⟨#[105, 110, 118, 97, 108, 105, 100, 32, 115, 121, 110, 116, 97, 120]⟩] 313], #[], []⟩
 let h0 := putG (putG w0.heap 10 #[.iface 311 (.pointer (some ⟨N, 0, none⟩))]) 9 #[.iface 311 (.pointer (some ⟨N + 1, 0, none⟩))]
 let h1 := (h0.modify 4 layFirst).modify 5 layAccept
 let h2 := putG (putG (putG h1 6 (aggVals Rows.laid_internal_strconv_uint64pow10).toArray) 7 (aggVals Rows.laid_math_bits_deBruijn32tab).toArray) 8 (aggVals Rows.laid_math_bits_deBruijn64tab).toArray
 { w0 with heap := putG (putG (putG h2 1 colCx) 0 alnCx) 2 entC }
end
end Go.Proofs.YtbmblnhfmpolbaaGreatDoor