/- A range over an iterator that keeps blocks of its own and writes them between two yields: what the iterator promises, and the statement's law. -/
import Derived.RangeFuncNested
import Derived.RangeFuncCalls
import Derived.RangeFuncLeaves
import Derived.Below
import Derived.OwnWalk
import Derived.Maps.AppendAt
namespace Go.Proofs.YtgfmplhpoblleaaDoor.FieldW
open Go.RowKit Go
set_option linter.unusedVariables false
set_option linter.unusedSimpArgs false

/-- J abides whatever turns the blocks Z; new blocks may join them. -/
def AbidesZ {β : Type} (J : (Nat → Prop) → β → World → Prop) : Prop :=
  ∀ (Z Z' : Nat → Prop) (s : β) (A B : World) (row : Option Nat), J Z s A → A.grownBy B row → (∀ r, row = some r → Z r) → (∀ b, Z' b → Z b ∨ (A.heap.size ≤ b ∧ b < B.heap.size)) → J Z' s B
/-- The blocks Z lie as they lay. -/
def KeepZ (Z : Nat → Prop) (A B : World) : Prop := ∀ b, Z b → B.heap[b]? = A.heap[b]?
theorem KeepZ.refl (Z : Nat → Prop) (A : World) : KeepZ Z A A := fun _ _ => rfl
theorem KeepZ.trans {Z : Nat → Prop} {A B C : World} (h : KeepZ Z A B) (h' : KeepZ Z B C) : KeepZ Z A C := fun b hb => (h' b hb).trans (h b hb)
/-- An iterator that gives just these, one by one, and may turn the blocks that it has laid (Z). What lies below n0, its own blocks, and the blocks K that it reads, must lie as they lay. -/
def SeqOwn {α : Type} (n : Nat) (P : Program) (g : Nat) (lb : Array Value) (encs : α → Array Value) (n0 : Nat) (K Z0 : Nat → Prop) (xs : List α) (w : World) : Prop :=
  ∀ (l : Nat) (J : (Nat → Prop) → List α → World → Prop) (Jx : List α → World → Prop) (W : World), Below w.heap.size w W → AbidesZ J →
    (∀ Z pre x r W1, J Z pre W1 → xs = pre ++ x :: r → YieldAt Fence.wide (n - 1) P l (encs x) W1 fun e W' =>
      (e = .returned (.bool true) ∧ J Z (pre ++ [x]) W' ∧ KeepZ (fun b => Z b ∨ K b) W1 W' ∧ Below n0 W1 W') ∨ (e = .returned (.bool false) ∧ Jx (pre ++ [x]) W')) →
    J Z0 [] W →
    CallsIn Fence.wide n P g (#[.func (.yield l) #[] #[]] ++ lb) W fun e W' => (∃ v, e = .returned v) ∧ ((∃ Z, J Z xs W') ∨ ∃ pre x r, xs = pre ++ x :: r ∧ Jx (pre ++ [x]) W')
/-- What a round's body ends in. -/
def postZ {α : Type} (K Z : Nat → Prop) (n0 : Nat) (I : (Nat → Prop) → List α → World → Prop) (Ix : Code → List α → World → Prop) (xs : List α) (W : World) : Exit → Act → World → Prop
  | .normal, _, W' => KeepZ (fun b => Z b ∨ K b) W W' ∧ Below n0 W W' ∧ I Z xs W'
  | .ret, _, W' => KeepZ (fun b => Z b ∨ K b) W W' ∧ Ix .ret xs W'
  | .exit id, _, W' => KeepZ (fun b => Z b ∨ K b) W W' ∧ Ix (.exit id) xs W'
  | .goto t, _, W' => KeepZ (fun b => Z b ∨ K b) W W' ∧ Ix (.goto t) xs W'
  | .panic _, _, _ => False
  | .outgrown, _, _ => False
theorem grown_put (W : World) (l : Nat) (o : Obj) : W.grownBy (W.putObj l o) (some l) := ⟨rfl, rfl, rfl, by simp [World.putObj], fun b hb hne => World.putObj_heap_other (fun e => hne (by rw [e]))⟩
theorem below_put (W : World) (l n0 : Nat) (o : Obj) (h : n0 ≤ l) : Below n0 W (W.putObj l o) := ⟨rfl, rfl, rfl, by simp [World.putObj], fun b hb => World.putObj_heap_other (by omega)⟩
theorem grown_alloc (W : World) (o : Obj) : W.grownBy (W.alloc o) none := ⟨rfl, rfl, rfl, by simp, fun b hb _ => Below.heap_alloc _ _ _ hb⟩
section
variable {α : Type} {n : Nat} {P : Program}
/-- **THE STATEMENT.** The caller brings I (between two rounds), what its assignment leaves (Ax), what a round that leaves has left (Ix); it is told the blocks Z that are not its own, and which element comes. -/
theorem range_own {g : Operand} {ps : Array Tmp} {assign body : Code} {Q : Exit → Act → World → Prop} {a : Act} {w : World} (h1 : 1 ≤ n) {gf : Nat} {lb : Array Value} (hg : a.eval g = .func (.func gf) #[] lb) (eg : ∀ args w, (callFunc gf args).run P w = .ok (.enter gf args) w)
    {encs : α → Array Value} {n0 : Nat} {K Z0 : Nat → Prop} {xs : List α} {w0 : World} (hseq : SeqOwn (n - 1) P gf lb encs n0 K Z0 xs w0) (hb0 : Below w0.heap.size w0 w) (hn0 : n0 ≤ w.heap.size) (hZ0 : ∀ b, Z0 b → b < w.heap.size) (hK0 : ∀ b, K b → b < w.heap.size) (hps : ∀ x, (encs x).size = ps.size)
    (I : (Nat → Prop) → List α → World → Prop) (Ax : (Nat → Prop) → (List α × α × Act) → World → Prop) (Ix : Code → List α → World → Prop) (hI : AbidesZ I) (hA : AbidesZ Ax)
    (hIx : ∀ c s W l r o, w.heap.size ≤ l → W.heap[l]? = some (.loop r) → Ix c s W → Ix c s (W.putObj l o)) (h0 : I Z0 [] w)
    (hassign : ∀ (l : Nat) (Z : Nat → Prop) (pre : List α) (x : α) (r : List α) (W : World) (Kc : Act → World → Prop), I Z pre W → xs = pre ++ x :: r → (∀ a' W', KeepZ (fun b => Z b ∨ K b) W W' → Below n0 W W' → Ax Z (pre, x, a') W' → Kc a' W') →
      assign.wpIn (Fence.wide.inRound l) (n - 1 - 1) P (Exit.then Kc (fun _ _ _ => False)) { tmps := (ps.zip (encs x)).foldl (fun t (p, v) => t.setIfInBounds p v) a.tmps, defers := [] } W)
    (hbody : ∀ (l : Nat) (Z : Nat → Prop) (pre : List α) (x : α) (r : List α) (a' : Act) (W : World), Ax Z (pre, x, a') W → xs = pre ++ x :: r → body.wpIn (Fence.wide.inRound l) (n - 1 - 1) P (postZ K Z n0 I Ix (pre ++ [x]) W) a' W)
    (hdone : ∀ (Z : Nat → Prop) (W : World), I Z xs W → W.heap[w.heap.size]? = some (.deferred (some [])) → Q .normal { a with defers := { target := .collected w.heap.size, args := #[] } :: a.defers } W)
    (hstop : ∀ (c : Code) (pre : List α) (x : α) (r : List α) (W : World), xs = pre ++ x :: r → Ix c (pre ++ [x]) W → W.heap[w.heap.size]? = some (.deferred (some [])) → c.wpIn Fence.wide n P Q { a with defers := { target := .collected w.heap.size, args := #[] } :: a.defers } W) :
    (Code.rangeFunc g ps assign body).wpIn Fence.wide n P Q a w := by
  refine wpIn_rangeFunc fun fn hfn => ?_
  obtain ⟨D, hD⟩ : ∃ D, D = w.heap.size := ⟨_, rfl⟩
  obtain ⟨L, hL⟩ : ∃ L, L = D + 1 := ⟨_, rfl⟩
  obtain ⟨st, hst⟩ : ∃ st : LoopState → Option Code → Obj, st = fun s pe => .loop { state := s, pending := pe, fn, tmps := a.tmps, params := ps, assign, body, defers := D } := ⟨_, rfl⟩
  obtain ⟨V, hV⟩ : ∃ V, V = (w.alloc (.deferred (some []))).alloc (st .ready none) := ⟨_, rfl⟩
  have sV : V.heap.size = D + 2 := by rw [hV]; simp [hD]
  have vL : V.heap[L]? = some (st .ready none) := by
    have h := World.alloc_heap_new (w.alloc (.deferred (some []))) (st .ready none)
    rw [World.size_alloc, ← hD, ← hL] at h
    rw [hV]; exact h
  have vD : V.heap[D]? = some (.deferred (some [])) := by
    have h := World.alloc_heap_new w (.deferred (some []))
    rw [← hD] at h
    rw [hV]; exact (Below.heap_alloc _ _ _ (by simp [hD])).trans h
  have vB : Below w0.heap.size w0 V := by
    rw [hV]; exact hb0.trans ((((Below.refl _ w).alloc (Nat.le_refl _) _).alloc (by simp) _).mono hb0.size)
  have vI : I (fun b => Z0 b ∨ b = L ∨ b = D) [] V := by
    have g1 : w.grownBy V none := by rw [hV]; exact (grown_alloc w _).trans (grown_alloc _ _)
    exact hI _ _ _ _ _ none h0 g1 (fun r e => by cases e) (fun b hb => by rcases hb with hb | hb | hb; exact .inl hb; exact .inr ⟨by omega, by omega⟩; exact .inr ⟨by omega, by omega⟩)
  refine ⟨L, [{ target := .collected D, args := #[] }], V, { target := .fn (.func gf) lb, args := #[.func (.yield L) #[] #[]] }, V, gf, #[.func (.yield L) #[] #[]] ++ lb, V, ?_, ?_, ?_, ?_, fun _ => h1, ?_⟩
  · have h := run_enterLoop_outer (P := P) (w := w) fn a.tmps ps assign body
    rw [← hD, ← hL] at h
    rw [hV, hst]; exact h
  · simp only [resolve, hg]
    simp [go_sem]
  · intro f' _; trivial
  · simp [invoke, go_sem, eg]
  · rw [← hD] at hdone hstop
    -- the iterator's contract, with the record and the block of deferred calls beside the caller's invariant
    refine (hseq L (fun Z pre W => I (fun b => Z b ∨ b = L ∨ b = D) pre W ∧ W.heap[L]? = some (st .ready none) ∧ W.heap[D]? = some (.deferred (some [])) ∧ ¬ Z L ∧ ¬ Z D)
      (fun pre W => ∃ c, Ix c pre W ∧ W.heap[L]? = some (st .done (some c)) ∧ W.heap[D]? = some (.deferred (some []))) V vB ?_ ?_ ⟨vI, vL, vD, fun h => by have := hZ0 L h; omega, fun h => by have := hZ0 D h; omega⟩).mono ?_
    · rintro Z Z' s A B row ⟨hi, hl, hd, zl, zd⟩ hgr hr hz
      have lA : L < A.heap.size := (Array.getElem?_eq_some_iff.1 hl).1
      have nz : ∀ b, ¬ Z b → b < A.heap.size → B.heap[b]? = A.heap[b]? := fun b hb hlt => hgr.block b hlt (fun e => hb (hr b e.symm))
      refine ⟨hI _ _ _ _ _ row hi hgr (fun r e => .inl (hr r e)) (fun b hb => ?_), (nz L zl lA).trans hl, (nz D zd (by omega)).trans hd, fun h => ?_, fun h => ?_⟩
      · rcases hb with hb | hb
        · rcases hz b hb with h | h
          · exact .inl (.inl h)
          · exact .inr h
        · exact .inl (.inr hb)
      · rcases hz L h with h | h
        · exact zl h
        · omega
      · rcases hz D h with h | h
        · exact zd h
        · omega
    · rintro Z pre x r W ⟨hi, hl, hd, zl, zd⟩ hx
      have lW : L < W.heap.size := (Array.getElem?_eq_some_iff.1 hl).1
      have hl' := hl
      rw [hst] at hl'
      refine ⟨fn, _, assign, body, run_yield hl' (hps x), roundIn_of_wpIn hfn (hassign L _ pre x r W _ hi hx ?_)⟩
      intro a1 W1 k1 b1 hax
      have l1 : W1.heap[L]? = some (st .ready none) := (k1 L (.inl (.inr (.inl rfl)))).trans hl
      have d1 : W1.heap[D]? = some (.deferred (some [])) := (k1 D (.inl (.inr (.inr rfl)))).trans hd
      have l1' := l1
      rw [hst] at l1'
      have lt1 : L < W1.heap.size := (Array.getElem?_eq_some_iff.1 l1).1
      obtain ⟨W2, hW2⟩ : ∃ W2, W2 = W1.putObj L (st .busy none) := ⟨_, rfl⟩
      have l2 : W2.heap[L]? = some (st .busy none) := by rw [hW2]; exact World.putObj_heap_same lt1
      have d2 : W2.heap[D]? = some (.deferred (some [])) := by rw [hW2]; exact (World.putObj_heap_other (by omega)).trans d1
      have gz : W1.grownBy W2 (some L) := by rw [hW2]; exact grown_put _ _ _
      have hax2 := hA _ (fun b => Z b ∨ b = L ∨ b = D) _ _ W2 (some L) hax gz (fun r e => by cases e; exact .inr (.inl rfl)) (fun b hb => .inl hb)
      refine ⟨W2, by have h := run_beginRound (P := P) l1' rfl; rw [hW2, hst]; exact h, ?_⟩
      refine wpIn_mono (hbody L _ pre x r a1 W2 hax2 hx) ?_
      have bz2 : Below n0 W W2 := b1.trans ((by rw [hW2]; exact below_put W1 L n0 _ (by omega)) : Below n0 W1 W2)
      have fin : ∀ (jump : Option Code) (W3 : World), KeepZ (fun b => (Z b ∨ b = L ∨ b = D) ∨ K b) W2 W3 → (Instr.endRound L jump).run P W3 = .ok (.bool jump.isNone) (W3.putObj L (st (if jump.isNone then .ready else .done) jump)) ∧ L < W3.heap.size ∧ W3.heap[D]? = some (.deferred (some [])) ∧ ∃ r3, W3.heap[L]? = some (.loop r3) := by
        intro jump W3 k3
        have l3 := (k3 L (.inl (.inr (.inl rfl)))).trans l2
        have lt3 := (Array.getElem?_eq_some_iff.1 l3).1
        rw [hst] at l3
        have h := run_endRound (P := P) jump l3
        exact ⟨by rw [hst]; exact h, lt3, (k3 D (.inl (.inr (.inr rfl)))).trans d2, _, l3⟩
      have kz : ∀ (W3 : World) (o : Obj), KeepZ (fun b => (Z b ∨ b = L ∨ b = D) ∨ K b) W2 W3 → KeepZ (fun b => Z b ∨ K b) W (W3.putObj L o) := fun W3 o k3 b hb => by
        have hbL : b ≠ L := fun e => by
          rcases hb with hb | hb
          · exact zl (e ▸ hb)
          · have := hK0 b hb; omega
        have hb2 : (Z b ∨ b = L ∨ b = D) ∨ K b := hb.imp .inl id
        exact (World.putObj_heap_other hbL).trans ((k3 b hb2).trans ((by rw [hW2]; exact World.putObj_heap_other hbL : W2.heap[b]? = W1.heap[b]?).trans (k1 b hb2)))
      rintro e a3 W3 hp
      cases e with
      | normal =>
        obtain ⟨k3, b3, i3⟩ := hp
        obtain ⟨hr, lt3, d3, r3, l3⟩ := fin none W3 k3
        refine ⟨_, _, hr, .inl ⟨rfl, ⟨hI _ _ _ _ _ (some L) i3 (grown_put W3 L _) (fun r e => by cases e; exact .inr (.inl rfl)) (fun b hb => .inl hb), World.putObj_heap_same lt3, (World.putObj_heap_other (by omega)).trans d3, zl, zd⟩, kz W3 _ k3, bz2.trans (b3.trans (below_put W3 L n0 _ (by omega)))⟩⟩
      | ret =>
        obtain ⟨k3, i3⟩ := hp
        obtain ⟨hr, lt3, d3, r3, l3⟩ := fin (some .ret) W3 k3
        exact ⟨_, _, hr, .inr ⟨rfl, .ret, hIx _ _ _ _ _ _ (by omega) l3 i3, World.putObj_heap_same lt3, (World.putObj_heap_other (by omega)).trans d3⟩⟩
      | exit id =>
        obtain ⟨k3, i3⟩ := hp
        obtain ⟨hr, lt3, d3, r3, l3⟩ := fin (some (.exit id)) W3 k3
        exact ⟨_, _, hr, .inr ⟨rfl, .exit id, hIx _ _ _ _ _ _ (by omega) l3 i3, World.putObj_heap_same lt3, (World.putObj_heap_other (by omega)).trans d3⟩⟩
      | goto t =>
        obtain ⟨k3, i3⟩ := hp
        obtain ⟨hr, lt3, d3, r3, l3⟩ := fin (some (.goto t)) W3 k3
        exact ⟨_, _, hr, .inr ⟨rfl, .goto t, hIx _ _ _ _ _ _ (by omega) l3 i3, World.putObj_heap_same lt3, (World.putObj_heap_other (by omega)).trans d3⟩⟩
      | panic ch => exact hp.elim
      | outgrown => exact hp.elim
    · rintro e W2 ⟨⟨v, rfl⟩, (⟨Z, hi, hl, hd, zl, zd⟩ | ⟨pre, x, r, hx, c, hi, hl, hd⟩)⟩
      · have hl' := hl
        rw [hst] at hl'
        refine ⟨none, _, run_endLoop (P := P) hl' (by simp), hdone _ _ (hI _ (fun b => Z b ∨ b = L ∨ b = D) _ _ _ (some L) hi (grown_put _ _ _) (fun r e => by cases e; exact .inr (.inl rfl)) (fun b hb => .inl hb)) ((World.putObj_heap_other (by omega)).trans hd)⟩
      · have hl' := hl
        rw [hst] at hl'
        exact ⟨some c, _, run_endLoop (P := P) hl' (by simp), hstop c pre x r _ hx (hIx _ _ _ _ _ _ (by omega) hl' hi) ((World.putObj_heap_other (by omega)).trans hd)⟩
end
end Go.Proofs.YtgfmplhpoblleaaDoor.FieldW
