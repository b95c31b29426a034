/- Laid together: Conforming: what the fates tell; plainly. What ConformTells carries: which numbers were seen, as a row of memory. The walk of the law ConformTells. Printed by genlaws46.py. The walks of document.At and of the reference's. Conforming: a part is seen where its event is played; plainly. -/
import Derived.Test.YtablhmobekmflaaGreatDoorCv22
import Derived.Test.YtablhmobekmflaaGreatDoorCv21
import Derived.Test.YtablhmobekmflaaGreatDoorCv14
import Derived.Test.YtablhmobekmflaaGreatDoorCv01
import Derived.Deep.OwnRows
import Derived.Test.YtablhmobekmflaaGreatDoorCv16
import Derived.Test.YtablhmobekmflaaGreatDoorCv06
set_option linter.unusedVariables false
set_option linter.unusedSimpArgs false
/-! ConTl -/
namespace Go.Proofs.YtablhmobekmflaaGreatDoor
open Go.RowKit
theorem lost_bd {s : Spn} {p : List Spn} (hs0 : 0 ≤ s.inn) (hle : s.inn ≤ s.out) (hs1 : s.out ≤ maxT) (hp : SetOk p) (hb : ∀ t ∈ p, 0 ≤ t.inn ∧ t.out ≤ maxT) : 0 ≤ lostS s p ∧ lostS s p ≤ s.out - s.inn := by
 obtain ⟨k1, k2, k3, k4⟩ := rest_ok (l := p) (a := 0) hp hb (by unfold maxT; omega)
 have hc := sum_count (N := s.out.toNat) (comm_full s (restF 0 p)) (comm_apt s k2) (fun x hx => by
  rw [comm_one] at hx
  obtain ⟨y, hy, h⟩ := List.mem_flatMap.1 hx
  split at h
  · simp at h; subst h; simp only; omega
  · simp at h)
 unfold lostS
 rw [hc]
 refine ⟨by omega, ?_⟩
 have h1 : ((List.range s.out.toNat).countP fun k : Nat => spInB (commS [s] (restF 0 p)) (k : Int)) ≤ (List.range s.out.toNat).countP (fun k => decide (s.inn.toNat ≤ k ∧ k < s.out.toNat)) := by
  apply List.countP_mono_left
  intro k _ hk
  obtain ⟨h2, _⟩ := comm_mem.1 ((spInB_inn _ _).1 hk)
  exact decide_eq_true (by omega)
 rw [countP_rng] at h1
 omega
theorem mem_idsW {q : Ent → Bool} {l : List Ent} {y : Int} : y ∈ idsW q l ↔ ∃ (j : Nat) (t : Ent), l[j]? = some t ∧ q t = true ∧ y = (j : Int) + 1 := by
 unfold idsW
 constructor
 · intro h
   obtain ⟨⟨t, j⟩, hu, rfl⟩ := List.mem_map.1 h
   obtain ⟨h1, h2⟩ := List.mem_filter.1 hu
   exact ⟨j, t, List.mem_zipIdx_iff_getElem?.1 h1, h2, rfl⟩
 · rintro ⟨j, t, h1, h2, rfl⟩
   exact List.mem_map.2 ⟨(t, j), List.mem_filter.2 ⟨List.mem_zipIdx_iff_getElem?.2 h1, h2⟩, rfl⟩
theorem idsW_nodup (q : Ent → Bool) (l : List Ent) : (idsW q l).Nodup := by
 refine snoc_ind (P := fun l => (idsW q l).Nodup) (by simp [idsW]) (fun l t ih => ?_) l
 rw [idsW_snoc]
 split
 · rw [List.nodup_append]
   refine ⟨ih, by simp, fun a ha b hb => ?_⟩
   simp at hb
   subst hb
   obtain ⟨j, t', h1, _, rfl⟩ := mem_idsW.1 ha
   have := (List.getElem?_eq_some_iff.1 h1).1
   omega
 · simpa using ih
theorem sum_one (i : Nat) (c : Nat) : ∀ M : Nat, ((List.range M).map fun k => if i = k then c else 0).sum = if i < M then c else 0
 | 0 => by simp
 | M + 1 => by
  rw [List.range_succ, List.map_append, List.sum_append, sum_one i c M]
  simp only [List.map_cons, List.map_nil, List.sum_cons, List.sum_nil]
  by_cases h : i < M
  · rw [if_pos h, if_neg (by omega), if_pos (by omega)]; omega
  · rw [if_neg h]
    by_cases h2 : i = M
    · rw [if_pos h2, if_pos (by omega)]; omega
    · rw [if_neg h2, if_neg (by omega)]; rfl
theorem sum_add {α : Type} (f g : α → Nat) : ∀ l : List α, (l.map fun x => f x + g x).sum = (l.map f).sum + (l.map g).sum
 | [] => rfl
 | x :: l => by simp only [List.map_cons, List.sum_cons, sum_add f g l]; omega
/-- all places together have all parts -/
theorem idsW_all (p : Ent → Bool) (M : Nat) (l : List Ent) : (∀ t ∈ l, t.i < M) → ((List.range M).map fun i => (idsW (fun t => atI i t && p t) l).length).sum = l.countP p := by
 refine snoc_ind (P := fun l => (∀ t ∈ l, t.i < M) → ((List.range M).map fun i => (idsW (fun t => atI i t && p t) l).length).sum = l.countP p) ?_ (fun l t ih h => ?_) l
 · intro _
   have : (List.range M).map (fun i => (idsW (fun t => atI i t && p t) []).length) = (List.range M).map fun _ => 0 := rfl
   rw [this]
   clear this
   induction M with
   | zero => rfl
   | succ M ih => rw [List.range_succ, List.map_append, List.sum_append]; simpa using ih
 · have ih := ih (fun x hx => h x (by simp [hx]))
   have ht := h t (by simp)
   rw [List.countP_append, ← ih]
   have e : (fun i => (idsW (fun t => atI i t && p t) (l ++ [t])).length) = fun i => (idsW (fun t => atI i t && p t) l).length + if t.i = i then (if p t = true then 1 else 0) else 0 := by
    funext i
    rw [idsW_snoc, List.length_append]
    congr 1
    by_cases hi : t.i = i
    · rw [if_pos hi]
      have : atI i t = true := by simp [atI, hi]
      rw [this, Bool.true_and]
      cases p t <;> rfl
    · rw [if_neg hi]
      have : atI i t = false := by simp [atI, hi]
      rw [this, Bool.false_and]
      rfl
   rw [e, sum_add, sum_one, if_pos ht]
   simp [List.countP_cons]
theorem mapIdx_map {α β γ : Type} (l : List α) (f : Nat → α → β) (g : β → γ) (h : Nat → γ) (hh : ∀ (i : Nat) x, l[i]? = some x → g (f i x) = h i) : (l.mapIdx f).map g = (List.range l.length).map h := by
 apply List.ext_getElem?
 intro i
 rw [List.getElem?_map, List.getElem?_mapIdx, List.getElem?_map]
 by_cases hi : i < l.length
 · rw [List.getElem?_eq_getElem hi, List.getElem?_range hi]
   simp only [Option.map_some]
   rw [hh i _ (List.getElem?_eq_getElem hi)]
 · rw [List.getElem?_eq_none (by omega), List.getElem?_eq_none (by simp; omega)]
   rfl
def partsOf (l : List Fat) : List Int := l.flatMap (·.parts)
def shortOf (l : List Fat) : Nat := (l.map fun f => f.short.length).sum
structure Tells (docs : List RDoc) (e : Edl) (least : Int) : Prop where
 len : (conFats docs e least).length = offR docs docs.length
 at_ : ∀ (a b : Nat) y v, docs[a]? = some y → y.doc.evs[b]? = some v → ∃ f, (conFats docs e least)[offR docs a + b]? = some f ∧ f.reel = y.reel ∧ f.id = v.id ∧ 0 ≤ f.lost ∧ f.lost ≤ v.out - v.inn ∧ -9223372036854775808 ≤ v.inn ∧ v.out ≤ 9223372036854775807 ∧ 0 ≤ v.inn
 nd : (partsOf (conFats docs e least)).Nodup
 rng : ∀ p ∈ partsOf (conFats docs e least), 1 ≤ p ∧ p ≤ ((conDoc docs e least).evs.length : Int)
 cnt : (partsOf (conFats docs e least)).length = (conDoc docs e least).evs.length
 sh : shortOf (conFats docs e least) = (conDoc docs e least).evs.countP fun v => decide (v.out - v.inn < least)
theorem ents_in {docs : List RDoc} {l : List Cut} {e : Edl} {t : Ent} (h : t ∈ ents docs l) : t.i < (fatsR e docs).length := by
 obtain ⟨-, -, k, d, j, -, h2, -, h4, h5⟩ := ents_mem h
 rw [h5]
 exact fats_in h2 h4
theorem fatOf_id {least : Int} {l : List Ent} {i : Nat} {f : Fat} : (fatOf least l i f).parts = idsW (fun t => atI i t && true) l := by
 unfold fatOf
 simp
set_option maxHeartbeats 1000000 in
theorem con_tells {docs : List RDoc} {e : Edl} {least : Int} (hE : conE docs e least = 0) : Tells docs e least := by
 obtain ⟨h0, h1, h2⟩ := conE_ok hE
 obtain ⟨g1, g2, g3, m, g4, g5⟩ := conErr_ok h0
 have hd := fun d hd => (rd_all g3 d hd).2.1
 have hF : conFats docs e least = (fatsR e docs).mapIdx (fatOf least (ents docs (joinC e.cuts))) := by unfold conFats; rw [if_pos hE, conSt_shape]
 have hV : (conDoc docs e least).evs = evsOf (ents docs (joinC e.cuts)) := by unfold conDoc; rw [if_pos hE]; exact con_evs
 rw [con_evs, evsOf_len] at h2
 have hin : ∀ t ∈ ents docs (joinC e.cuts), t.i < (fatsR e docs).length := fun t ht => ents_in ht
 have hM : (fatsR e docs).length = offR docs docs.length := by have := fats_len e docs docs.length; rwa [List.take_length] at this
 generalize ents docs (joinC e.cuts) = L at *
 refine ⟨?_, fun a b y v ha hb => ?_, ?_, ?_, ?_, ?_⟩
 · rw [hF, List.length_mapIdx, hM]
 · have hk : (fatsR e docs)[offR docs a + b]? = some ⟨y.reel, v.id, [], lostS ⟨v.inn, v.out⟩ (plE e y.reel), []⟩ := by
    have hn := fats_in (e := e) ha hb
    have hd1 : (fatsD e y)[b]? = some ⟨y.reel, v.id, [], lostS ⟨v.inn, v.out⟩ (plE e y.reel), []⟩ := by unfold fatsD; rw [List.getElem?_map, hb]; rfl
    have hlt := (List.getElem?_eq_some_iff.1 ha).1
    have hl := fats_len e docs a
    have htk := fats_take (e := e) ha
    have : ((fatsR e (docs.take (a + 1))))[offR docs a + b]? = some ⟨y.reel, v.id, [], lostS ⟨v.inn, v.out⟩ (plE e y.reel), []⟩ := by
     rw [htk, List.getElem?_append_right (by omega), hl, Nat.add_sub_cancel_left]
     exact hd1
    have hsp : fatsR e docs = fatsR e (docs.take (a + 1)) ++ fatsR e (docs.drop (a + 1)) := by
     unfold fatsR
     rw [← List.flatMap_append, List.take_append_drop]
    rw [hsp, List.getElem?_append_left (List.getElem?_eq_some_iff.1 this).1]
    exact this
   have hpl := plE_ok g1 y.reel
   have hsp := ev_span ((evs_v (doc_ok (hd y (List.mem_of_getElem? ha))).2.2.2.1).each v (List.mem_of_getElem? hb)).1
   have hm1 : v.inn ≤ v.out := by omega
   have hm2 : v.out ≤ maxT := by unfold maxT; omega
   have hlb : 0 ≤ lostS ⟨v.inn, v.out⟩ (plE e y.reel) ∧ lostS ⟨v.inn, v.out⟩ (plE e y.reel) ≤ v.out - v.inn := lost_bd (s := ⟨v.inn, v.out⟩) hsp.1 hm1 hm2 hpl.1 hpl.2.1
   refine ⟨_, by rw [hF, List.getElem?_mapIdx, hk]; rfl, rfl, rfl, hlb.1, hlb.2, ?_, ?_, hsp.1⟩ <;> omega
 · unfold partsOf
   rw [hF, List.Nodup, List.pairwise_flatMap]
   refine ⟨fun f hf => ?_, List.pairwise_iff_getElem.2 fun i j hi hj hij => ?_⟩
   · obtain ⟨i, hi, rfl⟩ := List.mem_mapIdx.1 hf
     exact idsW_nodup _ _
   · intro x hx y hy hxy
     subst hxy
     rw [List.getElem_mapIdx] at hx hy
     obtain ⟨a, t, h3, h4, h5⟩ := mem_idsW.1 hx
     obtain ⟨b, u, h6, h7, h8⟩ := mem_idsW.1 hy
     have : a = b := by omega
     subst this
     rw [h3] at h6
     cases h6
     simp [atI] at h4 h7
     omega
 · intro p hp
   unfold partsOf at hp
   rw [hF] at hp
   obtain ⟨f, hf, hp⟩ := List.mem_flatMap.1 hp
   obtain ⟨i, hi, rfl⟩ := List.mem_mapIdx.1 hf
   obtain ⟨a, t, h3, h4, h5⟩ := mem_idsW.1 hp
   have := (List.getElem?_eq_some_iff.1 h3).1
   rw [hV, evsOf_len]
   omega
 · unfold partsOf
   rw [hF, List.length_flatMap, hV, evsOf_len, mapIdx_map _ _ _ (fun i => (idsW (fun t => atI i t && (fun _ => true) t) L).length) (fun i x _ => by rw [fatOf_id]), idsW_all _ _ _ hin]
   simp
 · unfold shortOf
   rw [hF, mapIdx_map _ (fatOf least L) (fun f => f.short.length) (fun i => (idsW (fun t => atI i t && shI least t) L).length) (fun i x _ => rfl), idsW_all _ _ _ hin, hV]
   unfold evsOf
   rw [List.mapIdx_eq_zipIdx_map, List.countP_map]
   have e1 : L.countP (shI least) = (L.zipIdx.map (·.1)).countP (shI least) := by rw [List.zipIdx_map_fst]
   rw [e1, List.countP_map]
   rfl
end Go.Proofs.YtablhmobekmflaaGreatDoor
/-! ConTm -/
namespace Go.Proofs.YtablhmobekmflaaGreatDoor
open Go.RowKit
def seenA (Q : List Int) (n : Nat) : Array Value := ((List.range n).map fun i : Nat => Value.bool (decide ((i : Int) ∈ Q))).toArray
theorem seenA_get {Q : List Int} {n i : Nat} (h : i < n) : (seenA Q n)[i]? = some (.bool (decide ((i : Int) ∈ Q))) := by
 unfold seenA
 rw [List.getElem?_toArray, List.getElem?_map, List.getElem?_range h]
 rfl
theorem seenA_no {Q : List Int} {n i : Nat} (h : i < n) (hn : ¬ (i : Int) ∈ Q) : (seenA Q n)[i]? = some (.bool false) := by rw [seenA_get h, decide_eq_false hn]
theorem seenA_set {Q : List Int} {n i : Nat} (h : i < n) : (seenA Q n).setIfInBounds i (.bool true) = seenA (Q ++ [(i : Int)]) n := by
 apply Array.toList_inj.1
 apply List.ext_getElem?
 intro j
 unfold seenA
 rw [Array.toList_setIfInBounds, List.getElem?_set]
 by_cases hj : j < n
 · by_cases hij : i = j
   · subst hij
     simp [h, hj]
   · have : ¬ j = i := fun e => hij e.symm
     simp [hij, hj]
     try omega
 · have : ¬ i = j := by omega
   simp [this, hj]
   try omega
theorem madeCells_seen (n : Nat) : madeCells #[.bool false] n = seenA [] n := by
 apply Array.toList_inj.1
 rw [toList_madeCells_one]
 apply List.ext_getElem?
 intro j
 unfold seenA
 rw [List.getElem?_replicate]
 by_cases hj : j < n
 · simp [hj]
 · simp [hj]; try omega
/-- what is asked, by the two lists themselves -/
structure TellsF (docs : List RDoc) (e : Edl) (least : Int) (D : Doc) (F : List Fat) : Prop where
 len : F.length = offR docs docs.length
 at_ : ∀ (a b : Nat) y v, docs[a]? = some y → y.doc.evs[b]? = some v → ∃ f, F[offR docs a + b]? = some f ∧ f.reel = y.reel ∧ f.id = v.id ∧ 0 ≤ f.lost ∧ f.lost ≤ v.out - v.inn ∧ -9223372036854775808 ≤ v.inn ∧ v.out ≤ 9223372036854775807 ∧ 0 ≤ v.inn
 nd : (partsOf F).Nodup
 rng : ∀ p ∈ partsOf F, 1 ≤ p ∧ p ≤ (D.evs.length : Int)
 cnt : (partsOf F).length = D.evs.length
 sh : shortOf F = D.evs.countP fun v => decide (v.out - v.inn < least)
 few : F.length ≤ 1000000
theorem con_fats {docs : List RDoc} {e : Edl} {least : Int} (h : conE docs e least = 0) : FatsFit (conFats docs e least) ∧ (conFats docs e least).length ≤ 1000000 := by
 obtain ⟨h0, h1, h2⟩ := conE_ok h
 have hp : PL (conSt docs e least) := PL.cuts (PL.start e docs)
 have hF : conFats docs e least = (conSt docs e least).fats := by unfold conFats; rw [if_pos h]
 rw [hF]
 refine ⟨⟨fun f hf => by have := (hp f hf).1; omega, fun f hf => by have := (hp f hf).2; omega⟩, ?_⟩
 rw [conSt_shape, List.length_mapIdx]
 have hl := fats_len e docs docs.length
 rw [List.take_length] at hl
 obtain ⟨g1, g2, g3, -⟩ := conErr_ok h0
 have := offR_le (docs := docs) (q := 400) (fun d hd => (doc_ok (rd_all g3 d hd).2.1).2.2.1) docs.length
 omega
theorem tellsF {docs : List RDoc} {e : Edl} {least : Int} (hE : conE docs e least = 0) (h : Tells docs e least) : TellsF docs e least (conDoc docs e least) (conFats docs e least) := ⟨h.len, h.at_, h.nd, h.rng, h.cnt, h.sh, (con_fats hE).2⟩
theorem parts_take {F : List Fat} {k : Nat} {f : Fat} (h : F[k]? = some f) : partsOf (F.take (k + 1)) = partsOf (F.take k) ++ f.parts := by
 unfold partsOf
 rw [take_snoc' _ _ _ h]; simp
theorem short_take {F : List Fat} {k : Nat} {f : Fat} (h : F[k]? = some f) : shortOf (F.take (k + 1)) = shortOf (F.take k) + f.short.length := by
 unfold shortOf
 rw [take_snoc' _ _ _ h]; simp
theorem parts_pre (F : List Fat) (k : Nat) : partsOf F = partsOf (F.take k) ++ partsOf (F.drop k) := by
 unfold partsOf
 rw [← List.flatMap_append, List.take_append_drop]
theorem short_le (F : List Fat) (k : Nat) : shortOf (F.take k) ≤ shortOf F := by
 have : shortOf F = shortOf (F.take k) + shortOf (F.drop k) := by
  unfold shortOf
  rw [← List.sum_append, ← List.map_append, List.take_append_drop]
 omega
/-- a part that comes next: in its range, and not seen -/
theorem TellsF.next {docs : List RDoc} {e : Edl} {least : Int} {D : Doc} {F : List Fat} (h : TellsF docs e least D F) {k m : Nat} {f : Fat} {p : Int} (hf : F[k]? = some f) (hp : f.parts[m]? = some p) :
 ∃ z : Nat, p = (z : Int) ∧ 1 ≤ z ∧ z ≤ D.evs.length ∧ ¬ p ∈ partsOf (F.take k) ++ f.parts.take m ∧ (partsOf (F.take k) ++ f.parts.take m).length < D.evs.length := by
 have hk := (List.getElem?_eq_some_iff.1 hf).1
 have hm := (List.getElem?_eq_some_iff.1 hp).1
 have hsp : partsOf F = (partsOf (F.take k) ++ f.parts.take m) ++ p :: (f.parts.drop (m + 1) ++ partsOf (F.drop (k + 1))) := by
  rw [parts_pre F (k + 1), parts_take hf]
  have : f.parts = f.parts.take m ++ p :: f.parts.drop (m + 1) := by
   have h1 := List.take_append_drop m f.parts
   rw [List.drop_eq_getElem_cons hm, (List.getElem?_eq_some_iff.1 hp).2] at h1
   exact h1.symm
  rw [List.append_assoc, List.append_assoc]
  congr 1
  rw [← List.cons_append, ← List.append_assoc, ← this]
 have hr := h.rng p (by rw [hsp]; simp)
 have hnd := h.nd
 have hc := h.cnt
 rw [hsp] at hnd hc
 rw [List.nodup_append] at hnd
 refine ⟨p.toNat, by omega, by omega, by omega, fun hin => ?_, ?_⟩
 · exact hnd.2.2 p hin p (by simp) rfl
 · rw [List.length_append, List.length_cons] at hc; omega
theorem TellsF.pre_le {docs : List RDoc} {e : Edl} {least : Int} {D : Doc} {F : List Fat} (h : TellsF docs e least D F) (k : Nat) : (partsOf (F.take k)).length ≤ D.evs.length := by
 have := congrArg List.length (parts_pre F k)
 rw [h.cnt, List.length_append] at this
 omega
theorem TellsF.short_pre {docs : List RDoc} {e : Edl} {least : Int} {D : Doc} {F : List Fat} (h : TellsF docs e least D F) (k : Nat) : shortOf (F.take k) ≤ D.evs.length := by
 have h1 := short_le F k
 have h2 := h.sh
 have h3 := List.countP_le_length (p := fun v : Ev => decide (v.out - v.inn < least)) (l := D.evs)
 omega
theorem off_all {docs : List RDoc} {a b : Nat} {y : RDoc} (ha : docs[a]? = some y) (hb : b ≤ y.doc.evs.length) : offR docs a + b ≤ offR docs docs.length := by
 have h1 := offR_succ ha
 have h2 : ∀ k j, j ≤ k → offR docs j ≤ offR docs k := by
  intro k j hjk
  induction k with
  | zero =>
   have : j = 0 := by omega
   subst this; exact Nat.le_refl _
  | succ k ih =>
   by_cases hj : j ≤ k
   · have h3 := ih hj
     cases hd : docs[k]? with
     | none =>
      have hl := List.getElem?_eq_none_iff.1 hd
      have : offR docs (k + 1) = offR docs k := by unfold offR; rw [List.take_of_length_le hl, List.take_of_length_le (by omega)]
      omega
     | some d => have := offR_succ hd; omega
   · have : j = k + 1 := by omega
     subst this; exact Nat.le_refl _
 have h4 := (List.getElem?_eq_some_iff.1 ha).1
 have := h2 docs.length (a + 1) (by omega)
 omega
theorem count_take {l : List Ev} {p : Ev → Bool} {k : Nat} {x : Ev} (h : l[k]? = some x) : (l.take (k + 1)).countP p = (l.take k).countP p + if p x = true then 1 else 0 := by
 rw [take_snoc' _ _ _ h, List.countP_append, List.countP_cons, List.countP_nil]
 omega
theorem count_pre (l : List Ev) (p : Ev → Bool) (k : Nat) : (l.take k).countP p ≤ l.countP p := by
 have : l.countP p = (l.take k).countP p + (l.drop k).countP p := by rw [← List.countP_append, List.take_append_drop]
 omega
theorem con_few {docs : List RDoc} {e : Edl} {least : Int} (h : conE docs e least = 0) : (conDoc docs e least).evs.length ≤ 400 := by
 have := (conE_ok h).2.2
 unfold conDoc
 rw [if_pos h]
 exact this
end Go.Proofs.YtablhmobekmflaaGreatDoor
/-! LawCfTel -/
namespace Go.Proofs.YtablhmobekmflaaGreatDoor
open Go.RowKit
def Tl1 (W : World) (gs N : Nat) (docs : List RDoc) (F : List Fat) (n : Nat) (v10 v11 v12 i : Value) (wr : World) : Prop :=
 ∃ a : Nat, a ≤ n ∧ i = .int .i64 a ∧ v10 = .int .i64 (partsOf (F.take (offR docs a))).length ∧ v11 = .int .i64 (offR docs a : Nat) ∧ v12 = .int .i64 (shortOf (F.take (offR docs a)) : Nat) ∧ Ext W wr ∧ Blk wr gs 4 (seenA (partsOf (F.take (offR docs a))) (N + 1))
def Tl2 (W : World) (gs gx : Nat) (xc : Array Value) (N : Nat) (docs : List RDoc) (F : List Fat) (a m : Nat) (v10 v11 v12 i : Value) (wr : World) : Prop :=
 ∃ b : Nat, b ≤ m ∧ i = .int .i64 b ∧ v10 = .int .i64 (partsOf (F.take (offR docs a + b))).length ∧ v11 = .int .i64 (offR docs a + b : Nat) ∧ v12 = .int .i64 (shortOf (F.take (offR docs a + b)) : Nat) ∧ Ext W wr ∧ Blk wr gs 4 (seenA (partsOf (F.take (offR docs a + b))) (N + 1)) ∧ Blk wr gx 58 xc
def Tl3 (W : World) (gs gx : Nat) (xc : Array Value) (N : Nat) (Q l : List Int) (np : Nat) (v10 i : Value) (wr : World) : Prop :=
 ∃ m : Nat, m ≤ np ∧ i = .int .i64 m ∧ v10 = .int .i64 (Q ++ l.take m).length ∧ Ext W wr ∧ Blk wr gs 4 (seenA (Q ++ l.take m) (N + 1)) ∧ Blk wr gx 58 xc
def Tl4 (W : World) (l : List Ev) (least : Int) (S n : Nat) (v12 i : Value) (wr : World) : Prop :=
 ∃ j : Nat, j ≤ n ∧ i = .int .i64 j ∧ v12 = .int .i64 ((S : Int) - ((l.take j).countP fun v => decide (v.out - v.inn < least) : Nat)) ∧ Ext W wr
set_option maxRecDepth 100000 in
set_option maxHeartbeats 16000000 in
theorem ConformTells_any (docs : List RDoc) (A : Option Addr) (n c : Nat) (e : Edl) (B : Option Addr) (m d : Nat) (least : Int) (w : World) (hE : Env w) (ht : TabU w) (hl : RDocsIn w A n docs) (hr : ∀ d ∈ docs, d.reel.size ≤ 1048576) (he : CutsAt w B m e.cuts) (hok : EdlOk e) :
 Calls Tryz.prog 5 #[.slice A n c, .agg (e.cells B m d), .int .i64 least] w fun en w' => en = .returned (.bool true) ∧ Ext w w' := by
 obtain ⟨W1, hW1⟩ : ∃ W1, W1 = w.alloc (.cells (e.cells B m d) 25) := ⟨_, rfl⟩
 have HX : Hid (Ext w W1) := by show Ext _ _; rw [hW1]; exact (Ext.refl w).alloc _
 have HB : Hid (Blk W1 w.heap.size 25 (e.cells B m d)) := by show Blk _ _ _ _; rw [hW1]; exact Blk.new w _ _
 have HAw := Lib.hid (fun w' (hx : Ext w w') => awake46_any w' (hE.ext hx) (ht.ext hx))
 have HSm := Lib.hid (fun w' (hx : Ext w w') => small46_any docs A n c e B m d w' (hl.ext hx) (he.ext hx))
 have HOf := Lib.hid (fun w' => Of_any e B m d w')
 have HFt := Lib.hid (fun (h : small46 docs e = true) => fits46 hl hr he h)
 have HCo := Lib.hid (fun w' (hx : Ext w w') (h : Fits46 w A n docs m e) => Conform_any docs A n c e B m d least w' (hE.ext hx) (h.at_.ext hx) (he.ext hx) h.m hok h.n h.fit)
 have HTl : Hid (conE docs e least = 0 → Tells docs e least) := fun h => con_tells h
 have HNo : Hid (¬ conE docs e least = 0 → conFats docs e least = []) := fun h => by unfold conFats; rw [if_neg h]
 have HEs : Hid (conE docs e least = 0 → (conDoc docs e least).evs.length ≤ 400 ∧ ∀ (k : Nat) (y : Ev), (conDoc docs e least).evs[k]? = some y → 0 ≤ y.inn ∧ y.inn < y.out ∧ y.out ≤ 5184000) := fun h => ⟨con_few h, fun k y hy => by have h1 := con_cover h hy; exact ⟨h1.2.2.2.2.1, h1.2.2.2.1, h1.2.2.2.2.2⟩⟩
 have HDs := Lib.hid (fun w' (hx : Ext w w') => hl.ext hx)
 clear hE ht hl hr he hok
 unfold ConPost at HCo
 unfold Edl.cells at *
 go_enter Tryz.func5, Tryz.ntmps5
 go_upto_region 1 with fail
 rw [← hW1]
 clear hW1
 go_wp2_with fail
 refine (HAw.out _ HX.out).mono ?_
 rintro en w_65 ⟨rfl, hx_66⟩
 have HX_67 := Lib.hid (HX.out.trans hx_66)
 have HB_68 := Lib.hid (HB.out.ext hx_66)
 clear hx_66 HX HB
 go_wp2_with (refine wpList_loadB rfl 25 (.tmp 4) rfl w.heap.size 25 _ _ (by exact rfl) (by exact HB_68.out) Tryz.underlying25 rfl (by exact rsize_list) ?_)
 refine (HSm.out _ HX_67.out).mono ?_
 rintro en w_69 ⟨rfl, hx_70⟩
 have HX_71 := Lib.hid (HX_67.out.trans hx_70)
 have HB_72 := Lib.hid (HB_68.out.ext hx_70)
 clear hx_70 HX_67 HB_68
 cases hsm : small46 docs e with
 | false =>
  go_wp2_with fail
  go_ret
  exact ⟨rfl, HX_71.out⟩
 | true =>
  have HF := Lib.hid (HFt.out hsm)
  clear hsm HFt
  go_wp2_with (refine wpList_loadB rfl 25 (.tmp 4) rfl w.heap.size 25 _ _ (by exact rfl) (by exact HB_72.out) Tryz.underlying25 rfl (by exact rsize_list) ?_)
  refine (HOf.out _).mono ?_
  rintro en w_73 ⟨rfl, hx_74⟩
  have HX_75 := Lib.hid (HX_71.out.trans hx_74)
  have HB_76 := Lib.hid (HB_72.out.ext hx_74)
  clear hx_74 HX_71 HB_72
  go_wp2_with fail
  refine (HCo.out _ HX_75.out HF.out).mono ?_
  rintro en w_77 ⟨⟨hra, nr, hrc, hea, ne, hec, hca, nc, hcc⟩, AF, fc, rfl, hat, hsz, hft, hx_78⟩
  have HAt_0 := Lib.hid hat
  have HFa_0 := Lib.hid hft
  have hsr := hsz.r
  have hse := hsz.e
  have hsc := hsz.c
  clear hat hft hsz
  have HX_79 := Lib.hid (HX_75.out.trans hx_78)
  have HB_80 := Lib.hid (HB_76.out.ext hx_78)
  clear hx_78 HX_75 HB_76
  unfold Doc.cells
  dsimp only
  obtain ⟨D, hD⟩ : ∃ D, D = conDoc docs e least := ⟨_, rfl⟩
  obtain ⟨F, hFD⟩ : ∃ F, F = conFats docs e least := ⟨_, rfl⟩
  have HT : Hid (conE docs e least = 0 → TellsF docs e least D F) := fun h => by rw [hD, hFD]; exact tellsF h (HTl.out h)
  clear HTl
  rw [← hD] at HAt_0 HEs ⊢
  rw [← hFD] at HFa_0 HNo ⊢
  clear hD hFD
  generalize conE docs e least = E at *
  go_upto_region 6 with fail
  have HB_81 := Lib.hid (Blk.new w_77 52 #[.string D.title, .string D.lang, .int .u8 D.rate, .bool D.drop, .int .i64 D.last, .slice hra nr hrc, .slice hea ne hec, .slice hca nc hcc])
  have ha_82 := (Ext.refl w_77).alloc (.cells #[.string D.title, .string D.lang, .int .u8 D.rate, .bool D.drop, .int .i64 D.last, .slice hra nr hrc, .slice hea ne hec, .slice hca nc hcc] 52)
  have HX_83 := Lib.hid (HX_79.out.trans ha_82)
  have HB_84 := Lib.hid (HB_80.out.ext ha_82)
  have HF_85 := Lib.hid (HAt_0.out.ext ha_82)
  have HF_86 := Lib.hid (HFa_0.out.ext ha_82)
  clear ha_82 HX_79 HB_80 HAt_0 HFa_0
  generalize w_77.alloc (.cells #[.string D.title, .string D.lang, .int .u8 D.rate, .bool D.drop, .int .i64 D.last, .slice hra nr hrc, .slice hea ne hec, .slice hca nc hcc] 52) = w_87 at *
  generalize w_77.heap.size = gd_88 at *
  by_cases hE : E = 0
  case neg =>
   have hne : (E != 0) = true := by simpa using hE
   rw [HNo.out hE]
   clear hE HNo HT HEs
   go_wp2_with fail
   go_ret
   exact ⟨rfl, HX_83.out⟩
  subst hE
  have HTs := Lib.hid (HT.out rfl)
  obtain ⟨hN4, hEb⟩ := HEs.out rfl
  have HEb := Lib.hid hEb
  have hDle : D.evs.length = ne := HF_85.out.evs.len
  rw [hDle] at hN4
  clear HT HNo HEs hEb
  have HFa := HF_86
  have HDE := Lib.hid HF_85.out.evs
  have HBD := HB_81
  have HX := HX_83
  clear HF_85 HF_86
  have hmk := run_make_row' (P := Tryz.prog) 56 4 (.bool false) 1 Tryz.underlying56 (by kernel_rfl) rfl .i64 .i64 (ne + 1) (by omega) (by omega)
  rw [madeCells_seen, Int.natCast_add, Int.natCast_one] at hmk
  have hcx := fun o => HBD.out.cell o
  go_upto_region 10 with fail
  clear hcx hmk
  have HXs := Lib.hid ((Ext.refl w_87).alloc (.cells (seenA [] (ne + 1)) 4))
  have HBs := Lib.hid (Blk.new w_87 4 (seenA [] (ne + 1)))
  obtain ⟨gs, hgs⟩ : ∃ g, g = w_87.heap.size := ⟨_, rfl⟩
  obtain ⟨Ws, hWs⟩ : ∃ W, W = w_87.alloc (.cells (seenA [] (ne + 1)) 4) := ⟨_, rfl⟩
  have hgle : w_87.heap.size ≤ gs := by omega
  rw [← hgs] at HBs
  rw [← hWs] at HXs HBs ⊢
  rw [← hgs]
  clear hWs hgs
  have HDw := Lib.hid (HDs.out _ HX.out)
  clear HDs
  have HLn : Hid (docs.length = n) := HDw.out.1
  have hn6 := HF.out.n
  go_wp2_with fail
  go_loopw [10, 11, 12, 49] (fun v10 v11 v12 i wr => Tl1 w_87 gs ne docs F n v10 v11 v12 i wr) (fun _ _ _ i _ => n - (intOf i).toNat)
  case atStart => exact ⟨0, Nat.zero_le _, rfl, by simp [offR, partsOf], by simp [offR], by simp [offR, shortOf], HXs.out, by simpa [offR, partsOf] using HBs.out⟩
  case round =>
   obtain ⟨a, ha, rfl, rfl, rfl, rfl, hx, hbs⟩ := hrel
   have HX1 := Lib.hid hx
   have HB1 := Lib.hid hbs
   clear hx hbs HXs HBs
   by_cases hlt : a < n
   · obtain ⟨b0, off0, x, hh, hA, hxa, hxat, hxin, c0, c1, c2, c3, c4, c5, c6, c7, c8⟩ := HDw.out.at_cells hlt
     subst hA
     have HXa := Lib.hid hxa
     have HXe := Lib.hid hxat.evs
     have hxle := hxat.evs.len
     have hxen := hxin.en
     clear hxa hxat hxin
     obtain ⟨xra, xn, xrc, xea, xen, xec, xca, xcn, xcc⟩ := hh
     dsimp only at *
     have hb1 := HTs.out.pre_le (offR docs a)
     have hb2 := HTs.out.short_pre (offR docs a)
     have hb3 : offR docs a ≤ F.length := by have h1 := HTs.out.len; have h2 := off_all HXa.out (Nat.zero_le _); omega
     have hb4 := HTs.out.few
     have HX2 := Lib.hid (HX1.out.alloc (.cells #[.string x.reel, .string x.doc.title, .string x.doc.lang, .int .u8 x.doc.rate, .bool x.doc.drop, .int .i64 x.doc.last, .slice xra xn xrc, .slice xea xen xec, .slice xca xcn xcc] 58))
     have HB2 := Lib.hid (HB1.out.alloc (.cells #[.string x.reel, .string x.doc.title, .string x.doc.lang, .int .u8 x.doc.rate, .bool x.doc.drop, .int .i64 x.doc.last, .slice xra xn xrc, .slice xea xen xec, .slice xca xcn xcc] 58))
     have HBx := Lib.hid (Blk.new wr 58 #[.string x.reel, .string x.doc.title, .string x.doc.lang, .int .u8 x.doc.rate, .bool x.doc.drop, .int .i64 x.doc.last, .slice xra xn xrc, .slice xea xen xec, .slice xca xcn xcc])
     have hgx : gs ≠ wr.heap.size := by have := HB1.out.lt; omega
     replace c0 := HX1.out.cell c0
     replace c1 := HX1.out.cell c1
     replace c2 := HX1.out.cell c2
     replace c3 := HX1.out.cell c3
     replace c4 := HX1.out.cell c4
     replace c5 := HX1.out.cell c5
     replace c6 := HX1.out.cell c6
     replace c7 := HX1.out.cell c7
     replace c8 := HX1.out.cell c8
     go_upto_region 13 with fail
     clear c0 c1 c2 c3 c4 c5 c6 c7 c8
     obtain ⟨gx, hgxe⟩ : ∃ g, g = wr.heap.size := ⟨_, rfl⟩
     obtain ⟨W2, hW2⟩ : ∃ W, W = wr.alloc (.cells #[.string x.reel, .string x.doc.title, .string x.doc.lang, .int .u8 x.doc.rate, .bool x.doc.drop, .int .i64 x.doc.last, .slice xra xn xrc, .slice xea xen xec, .slice xca xcn xcc] 58) := ⟨_, rfl⟩
     rw [← hgxe] at HBx hgx
     rw [← hW2] at HX2 HB2 HBx ⊢
     rw [← hgxe]
     clear hW2 hgxe HX1 HB1
     have hcx := fun o => HBx.out.cell o
     go_wp2_with fail
     clear hcx
     go_loopw [10, 11, 12, 57] (fun v10 v11 v12 i wr => Tl2 w_87 gs gx #[.string x.reel, .string x.doc.title, .string x.doc.lang, .int .u8 x.doc.rate, .bool x.doc.drop, .int .i64 x.doc.last, .slice xra xn xrc, .slice xea xen xec, .slice xca xcn xcc] ne docs F a xen v10 v11 v12 i wr) (fun _ _ _ i _ => xen - (intOf i).toNat)
     case atStart => exact ⟨0, Nat.zero_le _, rfl, rfl, rfl, rfl, HX2.out, HB2.out, HBx.out⟩
     case round =>
      obtain ⟨b, hb, rfl, rfl, rfl, rfl, hx, hbs, hbx⟩ := hrel
      have HX3 := Lib.hid hx
      have HB3 := Lib.hid hbs
      have HBx3 := Lib.hid hbx
      clear hx hbs hbx HX2 HB2 HBx
      by_cases hlt2 : b < xen
      · obtain ⟨b1, off1, y, Ay, ny, cy, hA, hyb, -, c0, c1, c2, c3, c4, c5, c6⟩ := (HXe.out.ext HX3.out).at_ev hlt2
        subst hA
        obtain ⟨f, hfk, hf1, hf2, hf3, hf4, hy1, hy2, hy3⟩ := HTs.out.at_ a b x y HXa.out hyb
        clear hyb
        have hK := (List.getElem?_eq_some_iff.1 hfk).1
        obtain ⟨bF, offF, f', pA, pc, sA, sc, hAF, hfk', hpA, hsA, f0, f1, f2, f3, f4⟩ := HFa.out.at5 hK
        rw [hfk] at hfk'
        obtain rfl := Option.some.inj hfk'
        subst hAF
        rw [hf1] at f0
        rw [hf2] at f1
        have HFk := Lib.hid hfk
        have HPA := Lib.hid hpA
        clear hfk hfk' hpA hsA hf1 hf2
        have hp1 := HTs.out.pre_le (offR docs a + b)
        have hp2 := HTs.out.pre_le (offR docs a + b + 1)
        have hp3 := HTs.out.short_pre (offR docs a + b)
        have hp4 := HTs.out.short_pre (offR docs a + b + 1)
        rw [parts_take HFk.out, List.length_append] at hp2
        rw [short_take HFk.out] at hp4
        obtain ⟨lo, hlo⟩ : ∃ z, z = f.lost := ⟨_, rfl⟩
        rw [← hlo] at hf3 hf4 f3
        clear hlo
        have HX4 := Lib.hid (HX3.out.alloc (.cells #[.int .i64 y.id, .int .i64 y.inn, .int .i64 y.out, .string y.region, .int .u8 y.kind, .string y.speaker, .slice Ay ny cy] 64))
        have HB4 := Lib.hid (HB3.out.alloc (.cells #[.int .i64 y.id, .int .i64 y.inn, .int .i64 y.out, .string y.region, .int .u8 y.kind, .string y.speaker, .slice Ay ny cy] 64))
        have HBx4 := Lib.hid (HBx3.out.alloc (.cells #[.int .i64 y.id, .int .i64 y.inn, .int .i64 y.out, .string y.region, .int .u8 y.kind, .string y.speaker, .slice Ay ny cy] 64))
        have HBy4 := Lib.hid (Blk.new wr 64 #[.int .i64 y.id, .int .i64 y.inn, .int .i64 y.out, .string y.region, .int .u8 y.kind, .string y.speaker, .slice Ay ny cy])
        go_upto_region 16 with fail
        clear c0 c1 c2 c3 c4 c5 c6
        generalize wr.alloc (.cells #[.int .i64 y.id, .int .i64 y.inn, .int .i64 y.out, .string y.region, .int .u8 y.kind, .string y.speaker, .slice Ay ny cy] 64) = W4 at *
        generalize wr.heap.size = gy at *
        clear HX3 HB3 HBx3
        obtain ⟨K, hKe⟩ : ∃ K, K = offR docs a + b := ⟨_, rfl⟩
        rw [← hKe] at hK f0 f1 f2 f3 f4 HFk hp1 hp2 hp3 hp4 HB4 ⊢
        have HKe := Lib.hid hKe
        clear hKe
        have q0 := fun (z : EW W4) => (HX4.out.trans z.ext).cell f0
        have q1 := fun (z : EW W4) => (HX4.out.trans z.ext).cell f1
        have q3 := fun (z : EW W4) => (HX4.out.trans z.ext).cell f3
        have qx := fun (z : EW W4) (o : Nat) => (HBx4.out.ext z.ext).cell o
        have qy := fun (z : EW W4) (o : Nat) => (HBy4.out.ext z.ext).cell o
        have t1 : decide (F.length ≤ K) = false := decide_eq_false (by omega)
        have t2 : decide (lo < 0) = false := decide_eq_false (by omega)
        have t3 : decide (lo > y.out - y.inn) = false := decide_eq_false (by omega)
        have t4 : decide (y.out - y.inn < lo) = false := decide_eq_false (by omega)
        have t5 : K < F.length := hK
        refine wp_region_ew W4 (Ext.refl _) (by kernel_rfl) (by kernel_rfl) ?_
        repeat (go_big_quiet_step (fail))
        refine wpQuiet_nil ?_
        rintro W5 ⟨⟨_, hx5⟩, rfl⟩
        try dsimp only
        clear q0 q1 q3 qx qy f0 f1 f3
        have HX5 := Lib.hid (HX4.out.trans hx5)
        have HB5 := Lib.hid (HB4.out.ext hx5)
        have HBx5 := Lib.hid (HBx4.out.ext hx5)
        have HF2 := Lib.hid f2
        have HF4 := Lib.hid f4
        clear hx5 f2 f4 HX4 HB4 HBx4 HBy4 t1 t2 t3 t4
        have hc2 := HX5.out.cell HF2.out
        go_wp2_with fail
        clear hc2
        obtain ⟨np, hnp⟩ : ∃ k, k = f.parts.length := ⟨_, rfl⟩
        rw [← hnp] at HPA hp2 HF2 ⊢
        have HNp := Lib.hid hnp
        clear hnp
        go_loopw [10, 114] (fun v10 i wr => Tl3 w_87 gs gx #[.string x.reel, .string x.doc.title, .string x.doc.lang, .int .u8 x.doc.rate, .bool x.doc.drop, .int .i64 x.doc.last, .slice xra xn xrc, .slice (some ⟨b1, off1, none⟩) xen xec, .slice xca xcn xcc] ne (partsOf (F.take K)) f.parts np v10 i wr) (fun _ i _ => np - (intOf i).toNat)
        case atStart => exact ⟨0, Nat.zero_le _, rfl, by simp, HX5.out, by simpa using HB5.out, HBx5.out⟩
        case round =>
         obtain ⟨m', hm, rfl, rfl, hx, hbs, hbx⟩ := hrel
         have HX6 := Lib.hid hx
         have HB6 := Lib.hid hbs
         have HBx6 := Lib.hid hbx
         clear hx hbs hbx HX5 HB5 HBx5
         by_cases hlt3 : m' < np
         · obtain ⟨bq, offq, p, hA, hpm, hcp⟩ := (HPA.out.ext HX6.out).at1 hlt3
           subst hA
           obtain ⟨z, hz, hz1, hz2, hz3, hz4⟩ := HTs.out.next HFk.out hpm
           subst hz
           rw [hDle] at hz2 hz4
           have hcs : wr.cell? ⟨gs, z, none⟩ = some (.bool false) := by rw [HB6.out.cell z, seenA_no (by omega) hz3]
           have hfz := HB6.out.frozen z
           have HQ := Lib.hid (show (partsOf (F.take K) ++ f.parts.take (m' + 1)) = (partsOf (F.take K) ++ f.parts.take m') ++ [(z : Int)] by rw [take_snoc' _ _ _ hpm, List.append_assoc])
           have hst := setCell_put HB6.out z (.bool true)
           rw [seenA_set (by omega)] at hst
           have HSt := Lib.hid hst
           clear hpm hst hz3
           generalize partsOf (F.take K) ++ f.parts.take m' = Q at *
           have hcD := fun o => (HBD.out.ext HX6.out).cell o
           have t1 : decide ((z : Int) < 1) = false := decide_eq_false (by omega)
           have t2 : decide ((z : Int) > ne) = false := decide_eq_false (by omega)
           have t3 : ¬ ne < z := by omega
           have t4 : z < ne + 1 := by omega
           have t5 : ¬ ne + 1 ≤ z := by omega
           go_wp2_with fail
           refine ⟨⟨m' + 1, by omega, by go_num, ?_, ?_, ?_, ?_⟩, by simp [intOf]; omega⟩
           · rw [HQ.out, List.length_append]; go_num
           · rw [HSt.out]; exact Ext.put HX6.out hgle _ _
           · rw [HSt.out, HQ.out]; exact HB6.out.put _
           · rw [HSt.out]; exact HBx6.out.put_other hgx _
         · obtain rfl : m' = np := by omega
           have HFt : Hid (f.parts.take m' = f.parts) := List.take_of_length_le (by rw [← HNp.out]; omega)
           rw [HFt.out] at HB6 ⊢
           have hc4 := HX6.out.cell HF4.out
           go_wp2_with fail
           refine ⟨⟨b + 1, by omega, by go_num, ?_, ?_, ?_, HX6.out, ?_, HBx6.out⟩, by simp [intOf]; omega⟩
           · rw [← Nat.add_assoc, ← HKe.out, parts_take HFk.out]
           · rw [← Nat.add_assoc, ← HKe.out]; go_num
           · rw [← Nat.add_assoc, ← HKe.out, short_take HFk.out]; go_num
           · rw [← Nat.add_assoc, ← HKe.out, parts_take HFk.out]; exact HB6.out
      · obtain rfl : b = xen := by omega
        have HO : Hid (offR docs a + b = offR docs (a + 1)) := by show _ = _; rw [offR_succ HXa.out, hxle]
        rw [HO.out] at HB3 ⊢
        go_wp2_with fail
        exact ⟨⟨a + 1, by omega, by go_num, rfl, rfl, rfl, HX3.out, HB3.out⟩, by simp [intOf]; omega⟩
   · obtain rfl : a = n := by omega
     have HO : Hid (offR docs a = F.length) := by show _ = _; rw [HTs.out.len, HLn.out]
     rw [HO.out, List.take_length, HTs.out.cnt, HTs.out.sh, hDle]
     have hcD := fun o => (HBD.out.ext HX1.out).cell o
     have hb5 := HTs.out.few
     have hcn : D.evs.countP (fun v => decide (v.out - v.inn < least)) ≤ ne := by rw [← hDle]; exact List.countP_le_length
     go_wp2_with fail
     clear hcD
     generalize hS : D.evs.countP (fun v => decide (v.out - v.inn < least)) = S at *
     have HS := Lib.hid hS
     clear hS
     go_loopw [12, 154] (fun v12 i w' => Tl4 wr D.evs least S ne v12 i w') (fun _ i _ => ne - (intOf i).toNat)
     case atStart => exact ⟨0, Nat.zero_le _, rfl, by simp, Ext.refl _⟩
     case round =>
      obtain ⟨j, hj, rfl, rfl, hx⟩ := hrel
      have HX7 := Lib.hid hx
      clear hx
      have hcp := count_pre D.evs (fun v => decide (v.out - v.inn < least)) j
      rw [HS.out] at hcp
      by_cases hlt4 : j < ne
      · obtain ⟨b1, off1, y, Ay, ny, cy, hA, hyb, -, c0, c1, c2, c3, c4, c5, c6⟩ := (HDE.out.ext (HX1.out.trans HX7.out)).at_ev hlt4
        subst hA
        obtain ⟨y0, y1, y2⟩ := HEb.out j y hyb
        have hct := count_take (p := fun v => decide (v.out - v.inn < least)) hyb
        have hcp1 := count_pre D.evs (fun v => decide (v.out - v.inn < least)) (j + 1)
        rw [HS.out] at hcp1
        have HCt := Lib.hid hct
        clear hyb hct
        have HX8 := Lib.hid (HX7.out.alloc (.cells #[.int .i64 y.id, .int .i64 y.inn, .int .i64 y.out, .string y.region, .int .u8 y.kind, .string y.speaker, .slice Ay ny cy] 64))
        have HBy := Lib.hid (Blk.new wr 64 #[.int .i64 y.id, .int .i64 y.inn, .int .i64 y.out, .string y.region, .int .u8 y.kind, .string y.speaker, .slice Ay ny cy])
        go_upto_region 33 with fail
        clear c0 c1 c2 c3 c4 c5 c6
        generalize wr.alloc (.cells #[.int .i64 y.id, .int .i64 y.inn, .int .i64 y.out, .string y.region, .int .u8 y.kind, .string y.speaker, .slice Ay ny cy] 64) = W8 at *
        generalize wr.heap.size = gy at *
        have hcy := fun o => HBy.out.cell o
        by_cases hsh : y.out - y.inn < least
        · have hq : decide (y.out - y.inn < least) = true := decide_eq_true hsh
          rw [hq, if_pos rfl] at HCt
          rw [HCt.out] at hcp1
          go_wp2_with fail
          exact ⟨⟨j + 1, by omega, by go_num, by rw [HCt.out]; go_num, HX8.out⟩, by simp [intOf]; omega⟩
        · have hq : decide (y.out - y.inn < least) = false := decide_eq_false hsh
          rw [hq, if_neg (by simp)] at HCt
          go_wp2_with fail
          exact ⟨⟨j + 1, by omega, by go_num, by rw [HCt.out]; go_num, HX8.out⟩, by simp [intOf]; omega⟩
      · obtain rfl : j = ne := by omega
        have HFe : Hid (D.evs.take j = D.evs) := List.take_of_length_le (by omega)
        rw [HFe.out, HS.out]
        have hcD := fun o => (HBD.out.ext (HX1.out.trans HX7.out)).cell o
        have HXz := Lib.hid (HX.out.trans (HX1.out.trans HX7.out))
        go_wp2_with fail
        go_ret
        exact ⟨by first | rfl | simp, HXz.out⟩
end Go.Proofs.YtablhmobekmflaaGreatDoor
/-! AtD -/
namespace Go.Proofs.YtablhmobekmflaaGreatDoor
open Go.RowKit
/-- an event is seen at a frame -/
def seenB (e : Ev) (fr : Int) : Bool := decide (e.inn ≤ fr) && decide (fr < e.out)
/-- the places of the events that are seen, among the first k -/
def atTo (l : List Ev) (fr : Int) (k : Nat) : List Int := ((List.range k).filter fun i => (l[i]?.map fun e => seenB e fr) == some true).map fun i : Nat => (i : Int)
def atL (l : List Ev) (fr : Int) : List Int := atTo l fr l.length
theorem at_in {l : List Ev} {k : Nat} {x : Ev} {fr : Int} (hx : l[k]? = some x) (h : seenB x fr = true) : atTo l fr (k + 1) = atTo l fr k ++ [(k : Int)] := by
 unfold atTo
 rw [List.range_succ, List.filter_append, List.map_append]
 simp [hx, h]
theorem at_out {l : List Ev} {k : Nat} {x : Ev} {fr : Int} (hx : l[k]? = some x) (h : seenB x fr = false) : atTo l fr (k + 1) = atTo l fr k := by
 unfold atTo
 rw [List.range_succ, List.filter_append, List.map_append]
 simp [hx, h]
theorem at_len (l : List Ev) (fr : Int) (k : Nat) : (atTo l fr k).length ≤ k := by
 unfold atTo
 rw [List.length_map]
 exact Nat.le_trans (List.length_filter_le _ _) (by simp)
def AtPost (l : List Ev) (fr : Int) (w : World) (en : Ending) (w' : World) : Prop :=
 ∃ A c, en = .returned (.slice A (atL l fr).length c) ∧ IntsAt w' A (atL l fr).length (atL l fr) ∧ (atL l fr).length ≤ c ∧ Ext w w'
def AtRel (w : World) (n : Nat) (l : List Ev) (fr : Int) (v i : Value) (wr : World) : Prop :=
 ∃ k : Nat, k ≤ n ∧ i = .int .i64 k ∧ Ext w wr ∧ wr.ownsRow w.heap.size 3 1 v (atTo l fr k).length ((atTo l fr k).flatMap fun x => [Value.int .i64 x])
set_option maxRecDepth 100000 in
set_option maxHeartbeats 1000000 in
theorem DAt_any (d : Doc) (h : DocH) (fr : Int) (w : World) (hat : EvsAt w h.ea h.en d.evs) (hn : h.en ≤ 1000000) :
 Calls Tryz.prog 36 #[.agg (d.cells h), .int .i64 fr] w (AtPost d.evs fr w) := by
 have HX := Lib.hid ((Ext.refl w).alloc (.cells (d.cells h) 52))
 have HE := Lib.hid hat
 have HLn := Lib.hid hat.len
 have hb := fun o => (Blk.new w 52 (d.cells h)).cell o
 clear hat
 obtain ⟨ra, rn, rc, ea, n, ec, ca, cn, cc⟩ := h
 unfold Doc.cells at *
 dsimp only at *
 go_enter Tryz.func36, Tryz.ntmps36
 go_wp2_with fail
 clear hb
 go_loopw [5, 11] (fun v i wr => AtRel w n d.evs fr v i wr) (fun _ i _ => n - (intOf i).toNat)
 case atStart => exact ⟨0, Nat.zero_le _, rfl, HX.out, ⟨rfl, .inl ⟨rfl, rfl⟩⟩⟩
 case round =>
  obtain ⟨k, hk, rfl, hx, hown⟩ := hrel
  have hlk := at_len d.evs fr k
  have HO := Lib.hid hown
  clear hown
  by_cases hlt : k < n
  · obtain ⟨b, off, x, A', n', c', rfl, hxx, -, c0, c1, c2, c3, c4, c5, c6⟩ := (HE.out.ext hx).at_ev hlt
    have HXx := Lib.hid hxx
    clear hxx
    by_cases h1 : x.inn ≤ fr
    · by_cases h2 : fr < x.out
      · have HV := Lib.hid (at_in HXx.out (fr := fr) (by unfold seenB; simp [h1, h2]))
        go_upto_region 6 with fail
        clear c0 c1 c2 c3 c4 c5 c6
        have HX1 := Lib.hid (hx.alloc (.cells #[.int .i64 x.id, .int .i64 x.inn, .int .i64 x.out, .string x.region, .int .u8 x.kind, .string x.speaker, .slice A' n' c'] 64))
        have HO1 := Lib.hid (HO.out.alloc (.cells #[.int .i64 x.id, .int .i64 x.inn, .int .i64 x.out, .string x.region, .int .u8 x.kind, .string x.speaker, .slice A' n' c'] 64))
        have hszr := hx.size
        generalize wr.alloc (.cells #[.int .i64 x.id, .int .i64 x.inn, .int .i64 x.out, .string x.region, .int .u8 x.kind, .string x.speaker, .slice A' n' c'] 64) = W1 at *
        have hszW := HX1.out.size
        go_wp2_with (at_builtin; refine wpList_append1 rfl (.tmp 28) (.tmp 30) 83 rfl info_int Tryz.underlying83 rfl (by decide) (HO1.out.alloc _) (by exact rfl) W1.heap.size _ (by exact rfl) (by exact Blk.new' rfl) (by exact rfl) (by simp [Value.oneCell']) (by omega) (by simp [maxLen]; omega) (by simp; omega) ?_; intro v' w3 hown3 hgr)
        refine ⟨⟨k + 1, by omega, by go_num, (HX1.out.alloc _).grown hgr (fun q hq => own_lt HO1.out q hq), ?_⟩, by simp [intOf]; omega⟩
        rw [HV.out, List.length_append, List.flatMap_append]
        exact hown3
      · have HV := Lib.hid (at_out HXx.out (fr := fr) (by unfold seenB; simp [h1, h2]))
        go_wp2_with fail
        exact ⟨⟨k + 1, by omega, by go_num, hx.alloc _, by rw [HV.out]; exact HO.out.alloc _⟩, by simp [intOf]; omega⟩
    · have HV := Lib.hid (at_out HXx.out (fr := fr) (by unfold seenB; simp [h1]))
      go_wp2_with fail
      exact ⟨⟨k + 1, by omega, by go_num, hx.alloc _, by rw [HV.out]; exact HO.out.alloc _⟩, by simp [intOf]; omega⟩
  · have hkn : k = d.evs.length := by rw [HLn.out]; omega
    have hn' : n = d.evs.length := HLn.out.symm
    subst hkn
    change Hid (wr.ownsRow w.heap.size 3 1 _ (atL d.evs fr).length ((atL d.evs fr).flatMap fun x => [Value.int .i64 x])) at HO
    obtain ⟨A, c, rfl, hc, -, hsl, hfr⟩ := own_sl (f := fun x : Int => [Value.int .i64 x]) (size := 1) (fun _ => rfl) rfl HO.out
    have HS := Lib.hid hsl
    have HX2 := Lib.hid hx
    clear HO hsl hx
    go_wp2_with fail
    go_ret
    exact ⟨A, c, rfl, HS.out, hc, HX2.out⟩
end Go.Proofs.YtablhmobekmflaaGreatDoor
/-! ConSn -/
namespace Go.Proofs.YtablhmobekmflaaGreatDoor
open Go.RowKit
def seenE (t : Int) (x : Ev) : Bool := decide (x.inn ≤ t ∧ t < x.out)
/-- the places of the events that are seen at a frame -/
def atIx (l : List Ev) (t : Int) : List Nat := (List.range l.length).filter fun i => match l[i]? with | some x => seenE t x | none => false
theorem atIx_snoc (l : List Ev) (x : Ev) (t : Int) : atIx (l ++ [x]) t = atIx l t ++ if seenE t x = true then [l.length] else [] := by
 unfold atIx
 rw [List.length_append, List.length_singleton, List.range_succ, List.filter_append]
 congr 1
 · apply List.filter_congr
   intro i hi
   rw [List.getElem?_append_left (by simpa using hi)]
 · simp only [List.filter_cons, List.filter_nil]
   rw [List.getElem?_append_right (Nat.le_refl _), Nat.sub_self]
   rfl
theorem atIx_get (l : List Ev) (t : Int) : (atIx l t).map (fun i => l[i]?) = (l.filter (seenE t)).map some := by
 refine snoc_ind (P := fun l => (atIx l t).map (fun i => l[i]?) = (l.filter (seenE t)).map some) rfl (fun l x ih => ?_) l
 rw [atIx_snoc, List.map_append, List.filter_append, List.map_append, ← ih]
 congr 1
 · apply List.map_congr_left
   intro i hi
   unfold atIx at hi
   have := (List.mem_filter.1 hi).1
   rw [List.getElem?_append_left (by simpa using this)]
 · simp only [List.filter_cons, List.filter_nil]
   split <;> simp
theorem atIx_at {l : List Ev} {t : Int} {k i : Nat} (h : (atIx l t)[k]? = some i) : ∃ x, l[i]? = some x ∧ (l.filter (seenE t))[k]? = some x ∧ i < l.length := by
 have hm := congrArg (fun m => m[k]?) (atIx_get l t)
 simp only [List.getElem?_map, h, Option.map_some] at hm
 cases hf : (l.filter (seenE t))[k]? with
 | none => rw [hf] at hm; simp at hm
 | some x =>
  rw [hf] at hm
  simp only [Option.map_some, Option.some.injEq] at hm
  exact ⟨x, hm, rfl, (List.getElem?_eq_some_iff.1 hm).1⟩
theorem atIx_len (l : List Ev) (t : Int) : (atIx l t).length = (l.filter (seenE t)).length := by
 have := congrArg List.length (atIx_get l t)
 simpa using this
theorem atIx_atL (l : List Ev) (t : Int) : atL l t = (atIx l t).map fun i : Nat => (i : Int) := by
 unfold atL atTo atIx
 congr 1
 apply List.filter_congr
 intro i _
 cases l[i]? with
 | none => rfl
 | some x =>
  simp only [Option.map_some, seenB, seenE]
  by_cases h1 : x.inn ≤ t <;> by_cases h2 : t < x.out <;> simp [h1, h2]
/-- the numbers of the events that are seen at a frame of a reel -/
def wantD (y : RDoc) (s : ByteArray × Int × Bool) : List Int := if s.2.2 = true ∧ y.reel = s.1 then (y.doc.evs.filter (seenE s.2.1)).map (·.id) else []
def wantR (docs : List RDoc) (s : ByteArray × Int × Bool) : List Int := docs.flatMap fun y => wantD y s
def seenP (t : Int) (u : Ent) : Bool := decide (u.p.inn ≤ t ∧ t < u.p.out)
theorem flat_one {α β : Type} (f : α → List β) (p : α → Bool) : ∀ {l : List α}, (∀ x ∈ l, p x = false → f x = []) → (l.Pairwise fun a b => p a = true → p b = false) → l.flatMap f = ((l.find? p).map f).getD []
 | [], _, _ => rfl
 | x :: l, h, hp => by
  rw [List.pairwise_cons] at hp
  rw [List.flatMap_cons, List.find?_cons]
  cases hx : p x with
  | true =>
   have : l.flatMap f = [] := by
    rw [List.flatMap_eq_nil_iff]
    intro y hy
    exact h y (List.mem_cons_of_mem _ hy) (hp.1 y hy hx)
   rw [this]; simp
  | false =>
   rw [h x (List.mem_cons_self ..) hx, List.nil_append]
   exact flat_one f p (fun y hy => h y (List.mem_cons_of_mem _ hy)) hp.2
theorem entEvs_seen {c : Cut} (hp : c.pc.Ok) {t : Int} (h1 : c.inn ≤ t) (h2 : t < c.out) : ∀ (l : List Ev) (i : Nat), ((entEvs c i l).filter (seenP t)).map (fun u => u.x.id) = (l.filter (seenE (srcAt c t))).map (·.id)
 | [], _ => rfl
 | x :: l, i => by
  unfold entEvs
  rw [List.filter_append, List.map_append, entEvs_seen hp h1 h2 l (i + 1)]
  have hi := part_iff hp (x := x) h1 h2
  rw [List.filter_cons]
  by_cases hs : seenE (srcAt c t) x = true
  · rw [if_pos hs, List.map_cons]
    obtain ⟨p, hp1, hp2⟩ := hi.2 (of_decide_eq_true hs)
    have : (entAt c i x).filter (seenP t) = [⟨i, c, x, p⟩] := by
     unfold entAt
     rw [hp1]
     simp [seenP, hp2.1, hp2.2]
    rw [this]
    rfl
  · rw [if_neg hs]
    have : (entAt c i x).filter (seenP t) = [] := by
     unfold entAt
     cases hq : partE c x with
     | none => rfl
     | some p =>
      simp only [List.filter_cons, List.filter_nil]
      rw [if_neg]
      intro hc
      exact hs (decide_eq_true (hi.1 ⟨p, hq, of_decide_eq_true hc⟩))
    rw [this]
    rfl
theorem entC_far {docs : List RDoc} {c : Cut} (hp : c.pc.Ok) {t : Int} (h : decide (c.inn ≤ t ∧ t < c.out) = false) : (entC docs c).filter (seenP t) = [] := by
 rw [List.filter_eq_nil_iff]
 intro u hu hs
 obtain ⟨-, h2, -⟩ := entC_mem hu
 have := part_bd hp h2
 have hs := of_decide_eq_true hs
 have h := of_decide_eq_false h
 exact h (by omega)
theorem wantR_none (docs : List RDoc) (s : ByteArray × Int × Bool) (h : s.2.2 = false) : wantR docs s = [] := by
 unfold wantR
 rw [List.flatMap_eq_nil_iff]
 intro y _
 unfold wantD
 rw [if_neg (by simp [h])]
theorem reels_uniq {docs : List RDoc} (h : docs.Pairwise fun a b => a.reel.toList < b.reel.toList) (s : ByteArray) : docs.Pairwise fun a b => decide (a.reel = s) = true → decide (b.reel = s) = false :=
 h.imp fun hab ha => by
  have ha := of_decide_eq_true ha
  refine decide_eq_false fun hb => ?_
  rw [ha, hb] at hab
  exact Bs.lt_irrefl _ hab
/-- the parts that are seen, in order, come from the events that are seen where they are played -/
theorem con_seen {docs : List RDoc} {e : Edl} (h0 : conErr docs e = 0) (t : Int) :
 ((ents docs (joinC e.cuts)).filter (seenP t)).map (fun u => u.x.id) = wantR docs (atE e t) ∧ ∀ u ∈ (ents docs (joinC e.cuts)).filter (seenP t), u.c.reel = (atE e t).1 := by
 obtain ⟨g1, g2, g3, m, g4, g5⟩ := conErr_ok h0
 have hok := joinC_ok g1
 have hasc := joinC_asc g1
 have hflt : (ents docs (joinC e.cuts)).filter (seenP t) = (joinC e.cuts).flatMap fun c => (entC docs c).filter (seenP t) := by unfold ents; rw [List.filter_flatMap]
 have hone : ((joinC e.cuts).flatMap fun c => (entC docs c).filter (seenP t)) = ((findC (joinC e.cuts) t).map fun c => (entC docs c).filter (seenP t)).getD [] := by
  refine flat_one (fun c => (entC docs c).filter (seenP t)) (fun c : Cut => decide (c.inn ≤ t ∧ t < c.out)) (fun c hc hn => entC_far (hok c hc) hn) (List.Pairwise.imp_of_mem (fun {a b} ha hb hab h1 => ?_) hasc)
  have h1 := of_decide_eq_true h1
  refine decide_eq_false fun h2 => ?_
  omega
 have hat : atE e t = (match findC (joinC e.cuts) t with | some c => (c.reel, srcAt c t, true) | none => (⟨#[]⟩, 0, false)) := by
  rw [atE_play g1, ← join_play (fun c hc => edl_sane g1 hc)]
  unfold playC
  cases findC (joinC e.cuts) t <;> rfl
 rw [hflt, hone, hat]
 cases hf : findC (joinC e.cuts) t with
 | none => exact ⟨by simp only [Option.map_none, Option.getD_none]; rw [wantR_none _ _ rfl]; rfl, fun u hu => by simp at hu⟩
 | some c =>
  obtain ⟨hc, h1, h2⟩ := find_some hf
  simp only [Option.map_some, Option.getD_some]
  refine ⟨?_, fun u hu => by rw [(entC_mem (List.mem_filter.1 hu).1).1]⟩
  have hw : wantR docs (c.reel, srcAt c t, true) = ((docs.find? (fun y => decide (y.reel = c.reel))).map fun y => wantD y (c.reel, srcAt c t, true)).getD [] := by
   unfold wantR
   refine flat_one (fun y => wantD y (c.reel, srcAt c t, true)) (fun y : RDoc => decide (y.reel = c.reel)) (fun y _ hn => ?_) (reels_uniq (rd_reels g3).2 _)
   unfold wantD
   rw [if_neg]
   rintro ⟨_, h3⟩
   exact of_decide_eq_false hn h3
  rw [hw]
  unfold entC
  cases hk : findRd docs c.reel with
  | none =>
   have : docs.find? (fun y => decide (y.reel = c.reel)) = none := by
    unfold findRd at hk
    rw [List.findIdx?_eq_none_iff] at hk
    exact List.find?_eq_none.2 fun y hy hh => by rw [hk y hy] at hh; cases hh
   rw [this]
   rfl
  | some k =>
   obtain ⟨y, hy, hr⟩ := findRd_at hk
   have hfy : docs.find? (fun y => decide (y.reel = c.reel)) = some y := by
    cases hz : docs.find? (fun y => decide (y.reel = c.reel)) with
    | none => exact absurd (decide_eq_true hr) (List.find?_eq_none.1 hz y (List.mem_of_getElem? hy))
    | some z =>
     have hzr : z.reel = c.reel := by simpa using List.find?_some hz
     have hzm := List.mem_of_find?_eq_some hz
     clear hz
     obtain ⟨i, hi, rfl⟩ := List.mem_iff_getElem.1 hzm
     obtain ⟨hky, hke⟩ := List.getElem?_eq_some_iff.1 hy
     have hp := List.pairwise_iff_getElem.1 (rd_reels g3).2
     rcases Nat.lt_trichotomy i k with hij | hij | hij
     · have := hp i k hi hky hij; rw [hke, hr, hzr] at this; exact absurd this (Bs.lt_irrefl _)
     · subst hij; rw [hke]
     · have := hp k i hky hi hij; rw [hke, hr, hzr] at this; exact absurd this (Bs.lt_irrefl _)
   rw [hfy]
   simp only [Option.map_some, Option.getD_some]
   have he : evsR docs k = y.doc.evs := by unfold evsR; rw [hy]
   try simp only
   rw [he, entEvs_seen (hok c hc) h1 h2]
   unfold wantD
   rw [if_pos ⟨rfl, hr⟩]
theorem orig_at {docs : List RDoc} {e : Edl} {least : Int} (hE : conE docs e least = 0) {i : Nat} {t : Ent} (ht : (ents docs (joinC e.cuts))[i]? = some t) : orig (conFats docs e least) ((i : Int) + 1) = (t.c.reel, t.x.id, true) := by
 have hF : conFats docs e least = (fatsR e docs).mapIdx (fatOf least (ents docs (joinC e.cuts))) := by unfold conFats; rw [if_pos hE, conSt_shape]
 obtain ⟨-, -, k, d, j, -, h2, h3, h4, h5⟩ := ents_mem (List.mem_of_getElem? ht)
 have hkey := keys_at h2 h4
 rw [← keys_fats e docs, ← h5, List.getElem?_map] at hkey
 unfold orig
 cases hf : (conFats docs e least).find? fun f => decide ((i : Int) + 1 ∈ f.parts) with
 | none =>
  exfalso
  have hlt := ents_in (e := e) (List.mem_of_getElem? ht)
  have hm : fatOf least (ents docs (joinC e.cuts)) t.i (fatsR e docs)[t.i] ∈ conFats docs e least := by
   rw [hF]
   exact List.mem_mapIdx.2 ⟨t.i, hlt, rfl⟩
  have := List.find?_eq_none.1 hf _ hm
  apply this
  refine decide_eq_true ?_
  exact mem_idsW.2 ⟨i, t, ht, by simp [atI], rfl⟩
 | some f =>
  have h6 : ((i : Int) + 1) ∈ f.parts := by simpa using List.find?_some hf
  have h7 := List.mem_of_find?_eq_some hf
  rw [hF] at h7
  obtain ⟨z, hz, rfl⟩ := List.mem_mapIdx.1 h7
  obtain ⟨a, u, h8, h9, h10⟩ := mem_idsW.1 h6
  have : a = i := by omega
  subst this
  rw [ht] at h8
  cases h8
  simp [atI] at h9
  subst h9
  rw [List.getElem?_eq_getElem hz] at hkey
  simp only [Option.map_some, Option.some.injEq, Fat.key, Prod.mk.injEq] at hkey
  simp only [fatOf]
  rw [hkey.1, hkey.2, h3]
/-- what ConformSeen asks -/
theorem con_shows {docs : List RDoc} {e : Edl} {least : Int} (hE : conE docs e least = 0) (t : Int) :
 (atIx (conDoc docs e least).evs t).length = (wantR docs (atE e t)).length ∧ ∀ (k i : Nat), (atIx (conDoc docs e least).evs t)[k]? = some i → ∃ x y, (conDoc docs e least).evs[i]? = some x ∧ (wantR docs (atE e t))[k]? = some y ∧ orig (conFats docs e least) x.id = ((atE e t).1, y, true) := by
 obtain ⟨h0, h1, h2⟩ := conE_ok hE
 have hV : (conDoc docs e least).evs = evsOf (ents docs (joinC e.cuts)) := by unfold conDoc; rw [if_pos hE]; exact con_evs
 obtain ⟨k1, k2⟩ := con_seen h0 t
 have hfl : ∀ L : List Ent, (evsOf L).filter (seenE t) = ((L.zipIdx).filter fun u => seenP t u.1).map fun u => u.1.x.as ((u.2 : Int) + 1) u.1.p := fun L => by
  unfold evsOf
  rw [List.mapIdx_eq_zipIdx_map, List.filter_map]
  rfl
 have hz : ∀ L : List Ent, ((L.zipIdx).filter fun u => seenP t u.1).map (·.1) = L.filter (seenP t) := fun L => by
  have : L.filter (seenP t) = ((L.zipIdx).map (·.1)).filter (seenP t) := by rw [List.zipIdx_map_fst]
  rw [this, List.filter_map]
  rfl
 have hlen : (atIx (conDoc docs e least).evs t).length = (wantR docs (atE e t)).length := by
  rw [atIx_len, hV, hfl, ← k1, ← hz]
  simp
 refine ⟨hlen, fun k i hk => ?_⟩
 obtain ⟨x, hx1, hx2, hx3⟩ := atIx_at hk
 rw [hV] at hx1 hx2 hx3
 rw [evsOf_len] at hx3
 have ht : (ents docs (joinC e.cuts))[i]? = some (ents docs (joinC e.cuts))[i] := List.getElem?_eq_getElem hx3
 rw [hfl, List.getElem?_map] at hx2
 cases hu : ((ents docs (joinC e.cuts)).zipIdx.filter fun u => seenP t u.1)[k]? with
 | none => rw [hu] at hx2; simp at hx2
 | some u =>
  obtain ⟨u, j⟩ := u
  rw [hu] at hx2
  simp only [Option.map_some, Option.some.injEq] at hx2
  have hmem := List.mem_of_getElem? hu
  have hj := List.mem_zipIdx_iff_getElem?.1 (List.mem_filter.1 hmem).1
  simp only at hj
  rw [evsOf_at ht] at hx1
  have hx1 := (Option.some.inj hx1)
  have hij : i = j := by
   have := congrArg Ev.id (hx1.trans hx2.symm)
   simp only [Ev.as] at this
   omega
  subst hij
  rw [ht] at hj
  have hj := Option.some.inj hj
  have hf2 : ((ents docs (joinC e.cuts)).filter (seenP t))[k]? = some u := by rw [← hz, List.getElem?_map, hu]; rfl
  refine ⟨x, u.x.id, by rw [hV, evsOf_at ht, hx1], by rw [← k1, List.getElem?_map, hf2]; rfl, ?_⟩
  rw [← hx1]
  have := orig_at hE ht
  simp only [Ev.as]
  rw [this, ← k2 u (List.mem_of_getElem? hf2), hj]
end Go.Proofs.YtablhmobekmflaaGreatDoor