/- Copies of rows, the reference's. -/
import Derived.Test.YtcgflkmkdpgchaaDoorClone
namespace Go.Proofs.YtcgflkmkdpgchaaDoor
set_option linter.unusedVariables false
set_option linter.unusedSimpArgs false
open Go.RowKit

theorem run_ones : ∀ (r : Run), ∀ u ∈ r.cells, u.oneCell' = true := by intro r u hu; simp [Run.cells] at hu; rcases hu with rfl | rfl | rfl | rfl | rfl <;> rfl

def RCloneRel (w : World) (rows : List Row) (n : Nat) (v i : Value) (wr : World) : Prop :=
  ∃ (k : Nat) (hs : List Hd), k ≤ n ∧ i = .int .i64 k ∧ hs.length = k ∧ wr.ownsRow w.heap.size 43 1 v k (hs.flatMap fun h => [Hd.val h]) ∧ Ext w wr ∧ Goods wr hs (rows.take k) ∧
    (∀ g, v.ownBlock = some g → ∀ h ∈ hs, Apart g h) ∧ (∀ h ∈ hs, Fresh wr 48 w.heap.size h.1)

theorem Good.grown {w w1 : World} {h : Hd} {r : Row} {row : Option Nat} (g : Good w h r) (hg : w.grownBy w1 row) (hp : ∀ q, row = some q → Apart q h) : Good w1 h r :=
  ⟨g.1, g.2.1, Sl.keep g.2.2 fun hn b off hA o x hx => by
    have hb : b < w.heap.size := World.block_lt_of_cell? w _ hx.1
    have key : ∀ q v, w.cell? ⟨b, q, none⟩ = some v → w1.cell? ⟨b, q, none⟩ = some v := fun q v hv =>
      (World.cell?_of_block (w := w) (a := ⟨b, q, none⟩) (hg.block b hb (fun e => hp b e.symm hn _ hA rfl))).trans hv
    exact ⟨key _ _ hx.1, key _ _ hx.2.1, key _ _ hx.2.2.1, key _ _ hx.2.2.2.1, key _ _ hx.2.2.2.2⟩⟩

theorem rclone_step {w wr w1 w3 : World} {rows : List Row} {n k : Nat} {hs : List Hd} {r : Row} {v v' : Value} {A1 : Option Addr} {n' c1 : Nat} {o : Obj} (hlt : k < n) (hx : Ext w wr) (hx1 : Ext wr w1) (hsl : hs.length = k)
    (hO : wr.ownsRow w.heap.size 43 1 v k (hs.flatMap fun h => [Hd.val h])) (hG : Goods wr hs (rows.take k))
    (hA : ∀ g, v.ownBlock = some g → ∀ h ∈ hs, Apart g h) (hF : ∀ h ∈ hs, Fresh wr 48 w.heap.size h.1) (hr : rows[k]? = some r) (hn40 : n' * 40 ≤ 140737488355328) (hnc : n' ≤ c1) (hru : RunsAt w1 A1 n' r) (hfr : Fresh w1 48 wr.heap.size A1) (hlt1 : 0 < n' → ∀ ad, A1 = some ad → ad.block < w1.heap.size)
    (hO3 : w3.ownsRow w.heap.size 43 1 v' (k + 1) ((hs.flatMap fun h => [Hd.val h]) ++ [Value.slice A1 n' c1])) (hgr : (w1.alloc o).grownBy w3 v.ownBlock) (hat : v'.ownBlock = v.ownBlock ∨ v'.ownBlock = some (w1.alloc o).heap.size) :
    RCloneRel w rows n v' (.int .i64 ((k : Int) + 1)) w3 := by
  have hvb : ∀ g, v.ownBlock = some g → w.heap.size ≤ g ∧ g < wr.heap.size := fun g hg => hO.lt g hg
  have hapn : ∀ g, v.ownBlock = some g → Apart g (A1, n', c1) := fun g hg _ ad had => by have := (hfr ad had).1; have := hvb g hg; omega
  have hx3 : Ext w w3 := ((hx.trans hx1).alloc o).grown hgr (fun q hq => (hvb q hq).1)
  have hblk : ∀ h ∈ hs, ∀ (r' : Row), Good wr h r' → 0 < h.2.1 → ∀ ad, h.1 = some ad → ad.block < wr.heap.size := fun h _ r' hg hp ad had => by
    obtain ⟨b, off, x, hA', _, hC⟩ := hg.2.2.at_ (i := 0) hp
    rw [hA'] at had
    cases had
    exact World.block_lt_of_cell? wr _ hC.1
  refine ⟨k + 1, hs ++ [(A1, n', c1)], by omega, by simp, by simp [hsl], ?_, hx3, ?_, ?_, ?_⟩
  · rw [List.flatMap_append]
    exact hO3
  · intro i h q hi hq
    rw [take_snoc' rows k r hr] at hq
    by_cases hik : i < k
    · rw [List.getElem?_append_left (by omega)] at hi
      rw [List.getElem?_append_left (by rw [List.length_take]; have := (List.getElem?_eq_some_iff.1 hr).1; omega)] at hq
      have hm := List.mem_of_getElem? hi
      exact (((hG i h q hi hq).ext hx1).ext ((Ext.refl w1).alloc o)).grown hgr (fun g hg => hA g hg h hm)
    · have hlen : (rows.take k).length = k := by rw [List.length_take]; have := (List.getElem?_eq_some_iff.1 hr).1; omega
      have hik' : i = k := by
        have := (List.getElem?_eq_some_iff.1 hi).1
        simp [hsl] at this
        omega
      subst hik'
      rw [List.getElem?_append_right (by omega)] at hi
      rw [List.getElem?_append_right (by omega)] at hq
      simp only [hsl, hlen, Nat.sub_self, List.getElem?_cons_zero, Option.some.injEq] at hi hq
      subst hi hq
      exact (Good.ext (h := (A1, n', c1)) ⟨hnc, hn40, hru⟩ ((Ext.refl w1).alloc o)).grown hgr hapn
  · intro g hg h hm
    rcases hat with e | e
    · rw [e] at hg
      rcases List.mem_append.1 hm with h1 | h1
      · exact hA g hg h h1
      · rw [List.mem_singleton] at h1; subst h1; exact hapn g hg
    · rw [e] at hg
      have hge : g = w1.heap.size + 1 := by simpa using hg.symm
      have hs1 := hx1.size
      rcases List.mem_append.1 hm with h1 | h1
      · intro hp ad had
        obtain ⟨i, hi⟩ := List.getElem?_of_mem h1
        have hil : i < (rows.take k).length := by
          have := (List.getElem?_eq_some_iff.1 hi).1
          rw [List.length_take]; have := (List.getElem?_eq_some_iff.1 hr).1; omega
        have := hblk h h1 _ (hG i h _ hi (List.getElem?_eq_getElem hil)) hp ad had
        omega
      · rw [List.mem_singleton] at h1
        subst h1
        intro hp ad had
        have := hlt1 hp ad had
        omega
  · intro h hm
    have hty : ∀ q, v.ownBlock = some q → Typed (w1.alloc o) 43 q := fun q hq => ((own_typed hO q hq).ext hx1).ext ((Ext.refl w1).alloc o)
    rcases List.mem_append.1 hm with h1 | h1
    · exact (((hF h h1).ext hx1).ext ((Ext.refl w1).alloc o)).grown hgr hty (by decide)
    · rw [List.mem_singleton] at h1
      subst h1
      exact ((hfr.le hx.size).ext ((Ext.refl w1).alloc o)).grown hgr hty (by decide)

set_option maxRecDepth 100000 in
set_option maxHeartbeats 2000000 in
theorem RClone_own (A : Option Addr) (n c : Nat) (rows : List Row) (w : World) (hl : RowsAt w A n rows) (hn : n * 24 ≤ 140737488355328) :
    Calls Tryd.prog 28 #[.slice A n c] w (SOwnPost rows n w) := by
  have HL := Lib.hid hl
  have HLn := Lib.hid hl.len
  clear hl
  go_enter Tryd.func28, Tryd.ntmps28
  go_wp2_with fail
  go_loopw [3, 8] (fun v i wr => RCloneRel w rows n v i wr) (fun _ i _ => n - (intOf i).toNat)
  case atStart => exact ⟨0, [], Nat.zero_le _, rfl, rfl, ⟨rfl, .inl ⟨rfl, rfl⟩⟩, Ext.refl _, fun i h r hi _ => by simp at hi, fun g hg h hm => by simp at hm, fun h hm => by simp at hm⟩
  case round =>
    obtain ⟨k, hs, hk, rfl, hsl, hown, hx, hgd, hap, hfr⟩ := hrel
    have HGd := Lib.hid hgd
    have HAp := Lib.hid hap
    have HFr := Lib.hid hfr
    have HSl := Lib.hid hsl
    have HO := Lib.hid hown
    clear hgd hap hfr hsl hown
    by_cases hlt : k < n
    · obtain ⟨b, off, r, rfl, hr, A', n', c', hcell, hnc, hc40, hruns⟩ := (HL.out.ext hx).at_ hlt
      simp only [Nat.mul_one] at hcell
      have HRu := Lib.hid hruns
      have HRr := Lib.hid hr
      clear hr hruns
      have hwr : w.heap.size ≤ wr.heap.size := hx.size
      go_wp2_with (first | (at_builtin; refine wpList_appendS rfl (.tmp 13) (.tmp 15) 41 rfl info_run Tryd.underlying41 rfl (by decide) (by exact own_nil0' (g := wr.heap.size + 1) (base := wr.heap.size + 1) (by simp) (Nat.le_refl _)) (by exact rfl) (by exact rfl) (by exact Sl.ext (Cells.stays _) HRu.out.cells (((Ext.refl wr).alloc _).alloc _)) (fun _ => rfl) run_ones (by omega) (by simp [maxLen]; omega) (by simp) ?_; intro v1 w1 hown1 hgr1 hnil1; simp only [Nat.zero_add, List.nil_append] at hown1; obtain ⟨A1, c1, hv1, hc1, _, hsl1, hfr1⟩ := own_sl (f := Run.cells) (size := 5) (fun _ => rfl) HRu.out.len hown1; have hx1 : Ext wr w1 := ((((Ext.refl wr).alloc _).alloc _).grown hgr1 (fun q hq => by simp [Value.ownBlock] at hq; omega)); have HX1 := Lib.hid hx1; have HS1 := Lib.hid hsl1; have HF1 := Lib.hid hfr1; have HOw1 := Lib.hid hown1; have hsz1 := hx1.size; clear hx1 hsl1 hfr1 hown1 hgr1 hnil1; rw [hv1] at HOw1; rw [hv1]; clear hv1) | (at_builtin; refine wpList_append1a rfl (.tmp 12) (.tmp 18) 25 rfl info_row Tryd.underlying25 rfl (by decide) ((own_ext HO.out HX1.out).alloc _) (by exact rfl) w1.heap.size _ (by exact rfl) (by exact Blk.new' rfl) (by exact rfl) (by simp [Value.oneCell']) (by omega) (by simp [maxLen]; omega) (by simp; omega) ?_; intro v' w3 hown3 hgr3 hat3))
      refine ⟨rclone_step hlt hx HX1.out HSl.out HO.out HGd.out HAp.out HFr.out HRr.out hc40 hc1 (RunsAt.of_cells HS1.out) ((Fresh.of_own HOw1.out).le (by omega)) (fun hp ad had => ?_) hown3 hgr3 hat3, by simp [intOf]; omega⟩
      obtain ⟨b', off', x, hA', _, hC⟩ := HS1.out.at_ (i := 0) hp
      rw [hA'] at had
      cases had
      exact World.block_lt_of_cell? w1 _ (hC 0 _ rfl)
    · have hkn : k = n := by omega
      subst hkn
      go_wp2_with fail
      go_ret
      obtain ⟨A', c', hv, hc, _, hsl', hfr'⟩ := own_sl (f := fun h : Hd => [Hd.val h]) (size := 1) (fun _ => rfl) HSl.out HO.out
      have HT : rows.take k = rows := List.take_of_length_le (by rw [HLn.out]; omega)
      refine ⟨A', c', by rw [← hv]; rfl, hc, ⟨hs, by rw [← hv]; exact HO.out, HSl.out, by have := HGd.out; rw [HT] at this; exact this, HLn.out, fun h hm => HFr.out h hm⟩, hx⟩
theorem RClone_any (A : Option Addr) (n c : Nat) (rows : List Row) (w : World) (hl : RowsAt w A n rows) (hn : n * 24 ≤ 140737488355328) :
    Calls Tryd.prog 28 #[.slice A n c] w (SClonePost rows n w) :=
  (RClone_own A n c rows w hl hn).mono fun _ _ ⟨A1, c1, h1, h2, h3, h4⟩ => ⟨A1, c1, h1, h2, h3.fresh, h4⟩
end Go.Proofs.YtcgflkmkdpgchaaDoor
