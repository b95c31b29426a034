/- Slices that a call makes by append: what they hold, as slices that read as lists. -/
import Derived.Test.YtffianmhojiomaaDoorBlk
import Derived.Maps.AppendAt
namespace Go.Proofs.YtffianmhojiomaaDoor
set_option linter.unusedVariables false
set_option linter.unusedSimpArgs false
open Go.RowKit

/-- the cells of an element lie from offset o of block b on -/
def Cells {α : Type} (f : α → List Value) (w : World) (b o : Nat) (x : α) : Prop := ∀ j u, (f x)[j]? = some u → w.cell? ⟨b, o + j, none⟩ = some u
theorem Cells.stays {α : Type} (f : α → List Value) : Stays (Cells f) := fun _ _ _ _ _ k h j u hu => k.cell (h j u hu)

theorem flatMap_at {α : Type} (f : α → List Value) (size : Nat) (hf : ∀ x, (f x).length = size) : ∀ (l : List α) (i : Nat) (x : α) (j : Nat), l[i]? = some x → j < size → (l.flatMap f)[i * size + j]? = (f x)[j]?
  | [], i, x, j, h, _ => by simp at h
  | a :: l, 0, x, j, h, hj => by
    simp at h
    subst h
    rw [List.flatMap_cons, List.getElem?_append_left (by rw [hf]; omega)]
    simp
  | a :: l, i + 1, x, j, h, hj => by
    rw [List.flatMap_cons, List.getElem?_append_right (by rw [hf, Nat.succ_mul]; omega)]
    rw [show (i + 1) * size + j - (f a).length = i * size + j by rw [hf, Nat.succ_mul]; omega]
    exact flatMap_at f size hf l i x j (by simpa using h) hj

theorem flatMap_len {α : Type} (f : α → List Value) (size : Nat) (hf : ∀ x, (f x).length = size) : ∀ l : List α, (l.flatMap f).length = l.length * size
  | [] => by simp
  | a :: l => by rw [List.flatMap_cons, List.length_append, hf, flatMap_len f size hf l, List.length_cons, Nat.succ_mul]; omega

/-- what a call owns reads as the list -/
theorem own_sl {α : Type} {f : α → List Value} {size : Nat} (hf : ∀ x, (f x).length = size) {w : World} {base : Nat} {e : TypeId} {v : Value} {n : Nat} {l : List α} (hl : l.length = n)
    (h : w.ownsRow base e size v n (l.flatMap f)) : ∃ A c, v = .slice A n c ∧ n ≤ c ∧ c ≤ maxLen ∧ Sl w size (Cells f) A n l ∧ (∀ ad, A = some ad → base ≤ ad.block) := by
  rcases h.2 with ⟨rfl, rfl⟩ | ⟨g, cap, cur, rfl, hg, hh, hn, hm, hs, ht⟩
  · exact ⟨none, 0, rfl, Nat.le_refl _, by simp [maxLen], ⟨hl, fun h => absurd h (by omega)⟩, fun ad h => by cases h⟩
  · refine ⟨_, cap, rfl, hn, hm, ⟨hl, fun _ => ⟨g, 0, rfl, fun i x hx j u hu => ?_⟩⟩, fun ad h => by cases h; exact hg⟩
    have hjs : j < size := by
      have := (List.getElem?_eq_some_iff.1 hu).1
      rw [hf] at this
      exact this
    have h1 := flatMap_at f size hf l i x j hx hjs
    rw [hu, ← ht] at h1
    have hlt : i * size + j < n * size := by
      have hi := (List.getElem?_eq_some_iff.1 hx).1
      rw [hl] at hi
      have := Nat.mul_le_mul_right size (show i + 1 ≤ n from hi)
      rw [Nat.succ_mul] at this
      omega
    rw [List.getElem?_take_of_lt hlt] at h1
    rw [show (0 + i * size + j) = i * size + j by omega]
    simp only [World.cell?, hh]
    simpa using h1

/-- the cells of a new block -/
theorem news_new (w : World) (t : TypeId) (cs : List Value) : ∀ j u, cs[j]? = some u → (w.alloc (.cells cs.toArray t)).cell? ((⟨w.heap.size, 0, none⟩ : Addr).add j) = some u := by
  intro j u hu
  rw [Addr.add_mid, Nat.zero_add, (Blk.new w t cs.toArray).cell]
  simpa using hu

theorem own_ext {w w1 : World} {base : Nat} {e : TypeId} {size : Nat} {v : Value} {n : Nat} {xs : List Value} (h : w.ownsRow base e size v n xs) (k : Ext w w1) : w1.ownsRow base e size v n xs := by
  refine ⟨h.1, ?_⟩
  rcases h.2 with hn | ⟨g, cap, cur, rfl, hb, hg, rest⟩
  · exact .inl hn
  · exact .inr ⟨g, cap, cur, rfl, hb, (k.block g (Array.getElem?_eq_some_iff.1 hg).1).trans hg, rest⟩

theorem own_form {w : World} {base : Nat} {e : TypeId} {size : Nat} {v : Value} {n : Nat} {xs : List Value} (h : w.ownsRow base e size v n xs) (hn : 0 < n) : ∃ g cap, v = .slice (some ⟨g, 0, none⟩) n cap ∧ base ≤ g ∧ g < w.heap.size := by
  rcases h.2 with ⟨_, h0⟩ | ⟨g, cap, cur, rfl, hb, hg, _⟩
  · omega
  · exact ⟨g, cap, rfl, hb, (Array.getElem?_eq_some_iff.1 hg).1⟩

/-- block b is a row of elements of type T -/
def Typed (w : World) (T : TypeId) (b : Nat) : Prop := ∃ cur, w.heap[b]? = some (.cells cur T (0, 0))
theorem Typed.ext {w w1 : World} {T : TypeId} {b : Nat} (h : Typed w T b) (k : Ext w w1) : Typed w1 T b := by
  obtain ⟨cur, hb⟩ := h
  exact ⟨cur, (k.block b (Array.getElem?_eq_some_iff.1 hb).1).trans hb⟩
theorem Typed.lt {w : World} {T : TypeId} {b : Nat} (h : Typed w T b) : b < w.heap.size := by
  obtain ⟨cur, hb⟩ := h
  exact (Array.getElem?_eq_some_iff.1 hb).1
theorem Typed.ne {w : World} {T T' : TypeId} {b b' : Nat} (h : Typed w T b) (h' : Typed w T' b') (hne : T ≠ T') : b ≠ b' := by
  rintro rfl
  obtain ⟨cur, hb⟩ := h
  obtain ⟨cur', hb'⟩ := h'
  rw [hb] at hb'
  injection hb' with e
  injection e with _ e2
  exact hne e2
theorem Typed.setCell {w : World} {T : TypeId} {b : Nat} (h : Typed w T b) (p : Addr) (u : Value) : Typed (w.setCell p u) T b := by
  obtain ⟨cur, hb⟩ := h
  unfold Typed World.setCell
  simp only [Array.getElem?_modify, hb]
  by_cases hp : p.block = b
  · rw [if_pos hp]; exact ⟨_, rfl⟩
  · rw [if_neg hp]; exact ⟨_, rfl⟩
theorem Typed.grown {w w1 : World} {T T' : TypeId} {b : Nat} {row : Option Nat} (h : Typed w T b) (hg : w.grownBy w1 row) (hr : ∀ q, row = some q → Typed w T' q) (hne : T ≠ T') : Typed w1 T b := by
  obtain ⟨cur, hb⟩ := h
  refine ⟨cur, (hg.block b (Array.getElem?_eq_some_iff.1 hb).1 (fun e => ?_)).trans hb⟩
  exact Typed.ne ⟨cur, hb⟩ (hr b e.symm) hne rfl
theorem Blk.typed {w : World} {g : Nat} {t : TypeId} {cs : Array Value} (h : Blk w g t cs) : Typed w t g := ⟨cs, h⟩
theorem Typed.put {w : World} {T t : TypeId} {b g : Nat} {cs : Array Value} (h : Typed w T b) (hB : Blk w g t cs) (cs' : Array Value) (hne : T ≠ t) : Typed (putB w g t cs') T b := by
  have hn : g ≠ b := (Typed.ne h hB.typed hne).symm
  obtain ⟨cur, hb⟩ := h
  refine ⟨cur, ?_⟩
  unfold putB
  simp only
  rw [Array.getElem?_setIfInBounds_ne hn]
  exact hb
theorem Typed.frozen {w : World} {T : TypeId} {b : Nat} (h : Typed w T b) (o : Nat) : w.frozen? ⟨b, o, none⟩ = false := by
  obtain ⟨cur, hb⟩ := h
  simp [World.frozen?, hb]
theorem own_typed {w : World} {base : Nat} {e : TypeId} {size : Nat} {v : Value} {n : Nat} {xs : List Value} (h : w.ownsRow base e size v n xs) : ∀ k, v.ownBlock = some k → Typed w e k := by
  rcases h.2 with ⟨rfl, _⟩ | ⟨g, cap, cur, rfl, hg, hh, _⟩
  · intro k hk; simp [Value.ownBlock] at hk
  · intro k hk; simp [Value.ownBlock] at hk; subst hk; exact ⟨cur, hh⟩

theorem own_lt {w : World} {base : Nat} {e : TypeId} {size : Nat} {v : Value} {n : Nat} {xs : List Value} (h : w.ownsRow base e size v n xs) : ∀ k, v.ownBlock = some k → base ≤ k := by
  rcases h.2 with ⟨rfl, _⟩ | ⟨g, cap, cur, rfl, hg, _⟩
  · intro k hk; simp [Value.ownBlock] at hk
  · intro k hk; simp [Value.ownBlock] at hk; omega

/-- one element, built just now, is appended to a row of the call's own -/
theorem wpList_append1 {P : Program} {ops : Array Oper} {rest : List Oper} {o : Oper} {a : Act} {w : World} {Q : Exit → Act → World → Prop} (hgd : o.guard = none) (s x : Operand) (t : TypeId)
    (ho : o.op = .call { callee := .builtin .append, args := #[s, x], argTypes := #[t, t] })
    {base : Nat} {e : TypeId} {z : Value} {size bytes : Nat} (inf : (P.info? e).map (fun i => (i.zero, i.size, i.bytes)) = some (some z, size, bytes)) (ht : P.underlying t = some (.slice e)) (hzs : z.cells.size = size) (hsz : 0 < size)
    {v : Value} {n : Nat} {xs : List Value} (hown : w.ownsRow base e size v n xs) (hs : a.eval s = v) (g : Nat) (news : Array Value) (hx : a.eval x = .slice (some ⟨g, 0, none⟩) 1 1) (hB : Blk w g e news) (hl : news.size = size) (h1 : news.all (·.oneCell') = true)
    (hroom : (n + 1) * bytes ≤ 140737488355328) (hmax : n + 1 ≤ maxLen) (hbase : base ≤ w.heap.size)
    (h : ∀ v' w', w'.ownsRow base e size v' (n + 1) (xs ++ news.toList) → w.grownBy w' v.ownBlock → wpList P ops Q rest (a.put o.dst v') w') : wpList P ops Q (o :: rest) a w := by
  obtain ⟨i, hi, hz0, hz1, hz2⟩ := info_parts inf
  refine wpList_append_own w hgd s x t ho base e i z size bytes ht hi hz0 hz1 hz2 hzs hsz v n xs hs hown ⟨g, 0, none⟩ 1 1 news.toList hx (by simpa using hl) (fun j u hu => ?_) (fun u hu => ?_) hmax hroom hbase (fun v' w' h2 h3 _ => h v' w' h2 h3)
  · rw [Addr.add_mid, Nat.zero_add, hB.cell]
    simpa using hu
  · exact (Array.all_eq_true_iff_forall_mem.1 h1) u (by simpa using hu)

theorem flatMap_one {α : Type} {f : α → List Value} (h1 : ∀ x, ∀ u ∈ f x, u.oneCell' = true) (l : List α) : ∀ u ∈ l.flatMap f, u.oneCell' = true := by
  intro u hu
  obtain ⟨x, _, hx⟩ := List.mem_flatMap.1 hu
  exact h1 x u hx

theorem sl_news {α : Type} {f : α → List Value} {size : Nat} (hf : ∀ x, (f x).length = size) {w : World} {m b off : Nat} {l : List α} (hl : l.length = m) (hc : ∀ i x, l[i]? = some x → Cells f w b (off + i * size) x) :
    ∀ j u, (l.flatMap f)[j]? = some u → w.cell? ((⟨b, off, none⟩ : Addr).add j) = some u := by
  intro j u hu
  have hj : j < l.length * size := by
    have := (List.getElem?_eq_some_iff.1 hu).1
    rwa [flatMap_len f size hf] at this
  have hs : 0 < size := by
    rcases Nat.eq_zero_or_pos size with h | h
    · subst h; omega
    · exact h
  have hi : j / size < l.length := Nat.div_lt_of_lt_mul (by rw [Nat.mul_comm]; exact hj)
  have hx : l[j / size]? = some l[j / size] := List.getElem?_eq_getElem hi
  have hm : j % size < size := Nat.mod_lt _ hs
  have e : j / size * size + j % size = j := Nat.div_add_mod' j size
  have h1 := flatMap_at f size hf l (j / size) _ (j % size) hx hm
  rw [e, hu] at h1
  have h2 := hc (j / size) _ hx (j % size) u h1.symm
  rw [Addr.add_mid]
  rw [show off + j = off + j / size * size + j % size by omega]
  exact h2

theorem run_append_of_nil {P : Program} (w : World) (base : Nat) (t ty e : TypeId) (i : TypeInfo) (size : Nat) (ht : P.underlying t = some (.slice e)) (hi : P.info? e = some i)
    (v : Value) (n : Nat) (xs : List Value) (hown : w.ownsRow base e size v n xs) (c : Nat) : (Builtin.append_ #[t, t] ty #[v, .slice none 0 c]).run P w = .ok v w := by
  rcases hown.2 with ⟨rfl, rfl⟩ | ⟨g, cap, cur, rfl, _, _, hnc, _⟩
  · simp [Builtin.append_, run_underlying ht, sizeOf, typeInfo, hi, Builtin.lenOf, Builtin.firstCells]
  · simp [Builtin.append_, run_underlying ht, sizeOf, typeInfo, hi, Builtin.lenOf, Builtin.firstCells, hnc, storeCells]

/-- a slice that reads as a list is appended to a row of the call's own -/
theorem wpList_appendS {α : Type} {f : α → List Value} {P : Program} {ops : Array Oper} {rest : List Oper} {o : Oper} {a : Act} {w : World} {Q : Exit → Act → World → Prop} (hgd : o.guard = none) (s x : Operand) (t : TypeId)
    (ho : o.op = .call { callee := .builtin .append, args := #[s, x], argTypes := #[t, t] })
    {base : Nat} {e : TypeId} {z : Value} {size bytes : Nat} (inf : (P.info? e).map (fun i => (i.zero, i.size, i.bytes)) = some (some z, size, bytes)) (ht : P.underlying t = some (.slice e)) (hzs : z.cells.size = size) (hsz : 0 < size)
    {v : Value} {n : Nat} {xs : List Value} (hown : w.ownsRow base e size v n xs) (hs : a.eval s = v) {A : Option Addr} {m c : Nat} {l : List α} (hx : a.eval x = .slice A m c) (hS : Sl w size (Cells f) A m l) (hf : ∀ x, (f x).length = size) (h1 : ∀ x, ∀ u ∈ f x, u.oneCell' = true)
    (hroom : (n + m) * bytes ≤ 140737488355328) (hmax : n + m ≤ maxLen) (hbase : base ≤ w.heap.size)
    (h : ∀ v' w', w'.ownsRow base e size v' (n + m) (xs ++ l.flatMap f) → w.grownBy w' v.ownBlock → (v' = .slice none 0 0 ↔ v = .slice none 0 0 ∧ m = 0) → wpList P ops Q rest (a.put o.dst v') w') : wpList P ops Q (o :: rest) a w := by
  obtain ⟨i, hi, hz0, hz1, hz2⟩ := info_parts inf
  have hlen : (l.flatMap f).length = m * size := by rw [flatMap_len f size hf, hS.len]
  cases A with
  | none =>
    have hm : m = 0 := by
      rcases Nat.eq_zero_or_pos m with h0 | h0
      · exact h0
      · obtain ⟨_, _, h, _⟩ := hS.2 h0
        cases h
    subst hm
    obtain rfl : l = [] := List.eq_nil_of_length_eq_zero hS.len
    refine wpList_plain hgd fun K hK => ?_
    have hrun := run_append_of_nil (P := P) w base t o.type e i size ht hi v n xs hown c
    unfold Oper.wp execOp
    simp only [ho, resolve, invoke, builtin, Sem.run_bind, Sem.run_pure, Result.andThen_ok, List.map_toArray, List.map_cons, List.map_nil, hs, hx, hrun]
    exact hK _ _ (h v w (by simpa using hown) (World.grownBy.refl w _) ⟨fun e => ⟨e, rfl⟩, fun e => e.1⟩)
  | some ad =>
    refine wpList_append_own w hgd s x t ho base e i z size bytes ht hi hz0 hz1 hz2 hzs hsz v n xs hs hown ad m c (l.flatMap f) hx hlen (fun j u hu => ?_) (flatMap_one h1 l) hmax hroom hbase h
    rcases Nat.eq_zero_or_pos m with h0 | h0
    · subst h0
      obtain rfl : l = [] := List.eq_nil_of_length_eq_zero hS.len
      simp at hu
    · obtain ⟨b, off, hA, hc⟩ := hS.2 h0
      cases hA
      exact sl_news hf hS.len hc j u hu

/-- the same, and it is told where the row lies behind it -/
theorem wpList_append1a {P : Program} {ops : Array Oper} {rest : List Oper} {o : Oper} {a : Act} {w : World} {Q : Exit → Act → World → Prop} (hgd : o.guard = none) (s x : Operand) (t : TypeId)
    (ho : o.op = .call { callee := .builtin .append, args := #[s, x], argTypes := #[t, t] })
    {base : Nat} {e : TypeId} {z : Value} {size bytes : Nat} (inf : (P.info? e).map (fun i => (i.zero, i.size, i.bytes)) = some (some z, size, bytes)) (ht : P.underlying t = some (.slice e)) (hzs : z.cells.size = size) (hsz : 0 < size)
    {v : Value} {n : Nat} {xs : List Value} (hown : w.ownsRow base e size v n xs) (hs : a.eval s = v) (g : Nat) (news : Array Value) (hx : a.eval x = .slice (some ⟨g, 0, none⟩) 1 1) (hB : Blk w g e news) (hl : news.size = size) (h1 : news.all (·.oneCell') = true)
    (hroom : (n + 1) * bytes ≤ 140737488355328) (hmax : n + 1 ≤ maxLen) (hbase : base ≤ w.heap.size)
    (h : ∀ v' w', w'.ownsRow base e size v' (n + 1) (xs ++ news.toList) → w.grownBy w' v.ownBlock → (v'.ownBlock = v.ownBlock ∨ v'.ownBlock = some w.heap.size) → wpList P ops Q rest (a.put o.dst v') w') : wpList P ops Q (o :: rest) a w := by
  obtain ⟨i, hi, hz0, hz1, hz2⟩ := info_parts inf
  obtain ⟨v', w', hrun, h2, h3, _, h5⟩ := run_append_own_at (P := P) w base t o.type e i z size bytes ht hi hz0 hz1 hz2 hzs hsz v n xs hown ⟨g, 0, none⟩ 1 1 news.toList (by simpa using hl)
    (fun j u hu => by rw [Addr.add_mid, Nat.zero_add, hB.cell]; simpa using hu) (fun u hu => (Array.all_eq_true_iff_forall_mem.1 h1) u (by simpa using hu)) hmax hroom hbase
  refine wpList_plain hgd fun K hK => ?_
  unfold Oper.wp execOp
  simp only [ho, resolve, invoke, builtin, Sem.run_bind, Sem.run_pure, Result.andThen_ok, List.map_toArray, List.map_cons, List.map_nil, hs, hx, hrun]
  exact hK _ _ (h v' w' h2 h3 h5)
theorem Sl.take {α : Type} {C : World → Nat → Nat → α → Prop} {w : World} {size n : Nat} {A : Option Addr} {l : List α} (h : Sl w size C A n l) {k : Nat} (hk : k ≤ n) : Sl w size C A k (l.take k) := by
  refine ⟨by simp [h.1]; omega, fun h0 => ?_⟩
  obtain ⟨b, off, hA, hc⟩ := h.2 (by omega)
  refine ⟨b, off, hA, fun i x hx => hc i x ?_⟩
  rw [List.getElem?_take] at hx
  split at hx
  · exact hx
  · cases hx
theorem Sl.drop {α : Type} {C : World → Nat → Nat → α → Prop} {w : World} {size n b o : Nat} {l : List α} (h : Sl w size C (some ⟨b, o, none⟩) n l) (k : Nat) : Sl w size C (some ⟨b, o + k * size, none⟩) (n - k) (l.drop k) := by
  refine ⟨by simp [h.1], fun h0 => ?_⟩
  obtain ⟨b', off, hA, hc⟩ := h.2 (by omega)
  injection hA with hA
  injection hA with hb ho _
  subst hb ho
  refine ⟨_, _, rfl, fun i x hx => ?_⟩
  rw [List.getElem?_drop] at hx
  have := hc (k + i) x hx
  rw [Nat.add_mul] at this
  rw [Nat.add_assoc]
  exact this
theorem own_nil0 (w : World) (e : TypeId) (size base : Nat) (hb : base ≤ w.heap.size) : (w.alloc (.cells #[] e)).ownsRow base e size (.slice (some ⟨w.heap.size, 0, none⟩) 0 0) 0 [] :=
  ⟨by simp, .inr ⟨w.heap.size, 0, #[], rfl, hb, Blk.new w e #[], Nat.le_refl _, by simp [maxLen], by simp, by simp⟩⟩
theorem own_nil0' {w : World} {e : TypeId} {size base g : Nat} (hg : g = w.heap.size) (hb : base ≤ g) : (w.alloc (.cells #[] e)).ownsRow base e size (.slice (some ⟨g, 0, none⟩) 0 0) 0 [] := by
  subst hg
  exact own_nil0 w e size base hb
theorem wp_drewN {P : Program} {c : Code} {Q : Exit → Act → World → Prop} {a : Act} {w : World} {n : Nat} (h : ∀ w4, Ext w w4 → w4.heap.size = w.heap.size → Code.wp P c Q a w4) : Code.wp P c Q a (w.drewN n) := h _ ((Ext.refl w).drewN n) rfl
theorem own_le' {w : World} {L L' : Nat} {e : TypeId} {size : Nat} {v : Value} {n : Nat} {xs : List Value} (h : w.ownsRow L e size v n xs) (hl : L' ≤ L) : w.ownsRow L' e size v n xs := by
  refine ⟨h.1, ?_⟩
  rcases h.2 with hn | ⟨g, cap, cur, rfl, hb, rest⟩
  · exact .inl hn
  · exact .inr ⟨g, cap, cur, rfl, Nat.le_trans hl hb, rest⟩
theorem Sl.change {α : Type} {C D : World → Nat → Nat → α → Prop} {w : World} {size n : Nat} {A : Option Addr} {l : List α} (h : Sl w size C A n l) (hcd : ∀ b o x, C w b o x → D w b o x) : Sl w size D A n l :=
  ⟨h.1, fun hn => (h.2 hn).elim fun b hb => hb.elim fun off ho => ⟨b, off, ho.1, fun i x hx => hcd _ _ _ (ho.2 i x hx)⟩⟩
end Go.Proofs.YtffianmhojiomaaDoor
