/- RngE, LineC, LineD, UniA, UniB, UniC, PlugU, PUx0. -/
import Derived.Test.YtebgebgkieglhaaGreatDoorDM1
import Derived.Test.YtebgebgkieglhaaGreatDoorDM2
import Derived.Test.YtebgebgkieglhaaGreatDoorDM3
import Derived.Test.YtebgebgkieglhaaGreatDoorDM4
import Derived.Shelf.Bytes.SlClone
import Derived.Laws.Cover3
import Derived.Laws.RangeAny
import Derived.Laws.RangeString
import Derived.Shelf.Strconv.AtoiAll
import Derived.Shelf.Strconv.Itoa4
import Derived.WalkSmall
import Derived.Lib.LaidTab
import Derived.Lib.AppendIntMem
import Derived.Test.YtebgebgkieglhaaGreatDoorProg
import Derived.Below
import Derived.Deep.Draws
import Derived.Deep.AppendLies
import Derived.Maps.AppendAt
import Derived.OwnWalk
import Derived.Laws.BytesArg
import Derived.Laws.MakeOwn
import Derived.Laws.OwnMore
import Derived.Deep.OwnRows
import Derived.Tactics
import Derived.Lib.ConvBytes
import Derived.Laws.Slices
import Derived.WalkKit
import Derived.KernelRfl
import Derived.RowKit3
import Derived.Deep.LoopGhost
import Derived.Deep.QuietTactic
import Derived.BigQuiet
import Derived.WideLaws
import Derived.Deep.DeepCutAuto
import Derived.Deep.CutBlock
import Derived.Deep.RegionHeld3
import Derived.Laws.Rows
import Derived.Lib.AppendStr
import Derived.ArgAppend
import Derived.Laws.IdiomCopy
import Derived.OrdersHeld
import Derived.Laws.BitsLemmas
import Derived.RowKit
section
/- A range over an iterator whose elements lie in memory: what is yielded reads as the element comes. -/
namespace Go.Proofs.YtebgebgkieglhaaGreatDoor.FieldW
open Go.RowKit Go
set_option linter.unusedVariables false
set_option linter.unusedSimpArgs false

/-- What is yielded reads so, and lies neither in the iterator's blocks nor in the loop's. -/
def EAbides {α : Type} (E : (Nat → Prop) → α → Array Value → World → Prop) : Prop :=
  ∀ (Z : Nat → Prop) (x : α) (us : Array Value) (W : World) (L D : Nat) (rL : Loop), E Z x us W → W.heap[L]? = some (.loop rL) → W.heap[D]? = some (.deferred (some [])) → E (fun b => Z b ∨ b = L ∨ b = D) x us W
/-- An iterator that gives just these, one by one, and may turn the blocks that it has laid (Z). What lies below n0, its own blocks, and the blocks K that it reads, must lie as they lay. -/
def SeqE {α : Type} (n : Nat) (P : Program) (g : Nat) (lb : Array Value) (E : (Nat → Prop) → α → Array Value → World → Prop) (n0 : Nat) (K Z0 : Nat → Prop) (xs : List α) (w : World) : Prop :=
  ∀ (l : Nat) (J : (Nat → Prop) → List α → World → Prop) (Jx : List α → World → Prop) (W : World), Below w.heap.size w W → AbidesZ J →
    (∀ Z pre x r us W1, J Z pre W1 → xs = pre ++ x :: r → E Z x us W1 → YieldAt Fence.wide (n - 1) P l us W1 fun e W' =>
      (e = .returned (.bool true) ∧ J Z (pre ++ [x]) W' ∧ KeepZ (fun b => Z b ∨ K b) W1 W' ∧ Below n0 W1 W') ∨ (e = .returned (.bool false) ∧ Jx (pre ++ [x]) W')) →
    J Z0 [] W →
    CallsIn Fence.wide n P g (#[.func (.yield l) #[] #[]] ++ lb) W fun e W' => (∃ v, e = .returned v) ∧ ((∃ Z, J Z xs W') ∨ ∃ pre x r, xs = pre ++ x :: r ∧ Jx (pre ++ [x]) W')
section
variable {α : Type} {n : Nat} {P : Program}
/-- **THE STATEMENT.** The caller brings I (between two rounds), what its assignment leaves (Ax), what a round that leaves has left (Ix); it is told the blocks Z that are not its own, and which element comes. -/
theorem range_E {g : Operand} {ps : Array Tmp} {assign body : Code} {Q : Exit → Act → World → Prop} {a : Act} {w : World} (h1 : 1 ≤ n) {gf : Nat} {lb : Array Value} (hg : a.eval g = .func (.func gf) #[] lb) (eg : ∀ args w, (callFunc gf args).run P w = .ok (.enter gf args) w)
    {E : (Nat → Prop) → α → Array Value → World → Prop} (hE : EAbides E) {n0 : Nat} {K Z0 : Nat → Prop} {xs : List α} {w0 : World} (hseq : SeqE (n - 1) P gf lb E n0 K Z0 xs w0) (hb0 : Below w0.heap.size w0 w) (hn0 : n0 ≤ w.heap.size) (hZ0 : ∀ b, Z0 b → b < w.heap.size) (hK0 : ∀ b, K b → b < w.heap.size) (hps : ∀ Z x us W, E Z x us W → us.size = ps.size)
    (I : (Nat → Prop) → List α → World → Prop) (Ax : (Nat → Prop) → (List α × α × Act) → World → Prop) (Ix : Code → List α → World → Prop) (hI : AbidesZ I) (hA : AbidesZ Ax)
    (hIx : ∀ c s W l r o, w.heap.size ≤ l → W.heap[l]? = some (.loop r) → Ix c s W → Ix c s (W.putObj l o)) (h0 : I Z0 [] w)
    (hassign : ∀ (l : Nat) (Z : Nat → Prop) (pre : List α) (x : α) (r : List α) (us : Array Value) (W : World) (Kc : Act → World → Prop), I Z pre W → xs = pre ++ x :: r → E Z x us W → (∀ a' W', KeepZ (fun b => Z b ∨ K b) W W' → Below n0 W W' → Ax Z (pre, x, a') W' → Kc a' W') →
      assign.wpIn (Fence.wide.inRound l) (n - 1 - 1) P (Exit.then Kc (fun _ _ _ => False)) { tmps := (ps.zip us).foldl (fun t (p, v) => t.setIfInBounds p v) a.tmps, defers := [] } W)
    (hbody : ∀ (l : Nat) (Z : Nat → Prop) (pre : List α) (x : α) (r : List α) (a' : Act) (W : World), Ax Z (pre, x, a') W → xs = pre ++ x :: r → body.wpIn (Fence.wide.inRound l) (n - 1 - 1) P (postZ K Z n0 I Ix (pre ++ [x]) W) a' W)
    (hdone : ∀ (Z : Nat → Prop) (W : World), I Z xs W → W.heap[w.heap.size]? = some (.deferred (some [])) → Q .normal { a with defers := { target := .collected w.heap.size, args := #[] } :: a.defers } W)
    (hstop : ∀ (c : Code) (pre : List α) (x : α) (r : List α) (W : World), xs = pre ++ x :: r → Ix c (pre ++ [x]) W → W.heap[w.heap.size]? = some (.deferred (some [])) → c.wpIn Fence.wide n P Q { a with defers := { target := .collected w.heap.size, args := #[] } :: a.defers } W) :
    (Code.rangeFunc g ps assign body).wpIn Fence.wide n P Q a w := by
  refine wpIn_rangeFunc fun fn hfn => ?_
  obtain ⟨D, hD⟩ : ∃ D, D = w.heap.size := ⟨_, rfl⟩
  obtain ⟨L, hL⟩ : ∃ L, L = D + 1 := ⟨_, rfl⟩
  obtain ⟨st, hst⟩ : ∃ st : LoopState → Option Code → Obj, st = fun s pe => .loop { state := s, pending := pe, fn, tmps := a.tmps, params := ps, assign, body, defers := D } := ⟨_, rfl⟩
  obtain ⟨V, hV⟩ : ∃ V, V = (w.alloc (.deferred (some []))).alloc (st .ready none) := ⟨_, rfl⟩
  have sV : V.heap.size = D + 2 := by rw [hV]; simp [hD]
  have vL : V.heap[L]? = some (st .ready none) := by
    have h := World.alloc_heap_new (w.alloc (.deferred (some []))) (st .ready none)
    rw [World.size_alloc, ← hD, ← hL] at h
    rw [hV]; exact h
  have vD : V.heap[D]? = some (.deferred (some [])) := by
    have h := World.alloc_heap_new w (.deferred (some []))
    rw [← hD] at h
    rw [hV]; exact (Below.heap_alloc _ _ _ (by simp [hD])).trans h
  have vB : Below w0.heap.size w0 V := by
    rw [hV]; exact hb0.trans ((((Below.refl _ w).alloc (Nat.le_refl _) _).alloc (by simp) _).mono hb0.size)
  have vI : I (fun b => Z0 b ∨ b = L ∨ b = D) [] V := by
    have g1 : w.grownBy V none := by rw [hV]; exact (grown_alloc w _).trans (grown_alloc _ _)
    exact hI _ _ _ _ _ none h0 g1 (fun r e => by cases e) (fun b hb => by rcases hb with hb | hb | hb; exact .inl hb; exact .inr ⟨by omega, by omega⟩; exact .inr ⟨by omega, by omega⟩)
  refine ⟨L, [{ target := .collected D, args := #[] }], V, { target := .fn (.func gf) lb, args := #[.func (.yield L) #[] #[]] }, V, gf, #[.func (.yield L) #[] #[]] ++ lb, V, ?_, ?_, ?_, ?_, fun _ => h1, ?_⟩
  · have h := run_enterLoop_outer (P := P) (w := w) fn a.tmps ps assign body
    rw [← hD, ← hL] at h
    rw [hV, hst]; exact h
  · simp only [resolve, hg]
    simp [go_sem]
  · intro f' _; trivial
  · simp [invoke, go_sem, eg]
  · rw [← hD] at hdone hstop
    -- the iterator's contract, with the record and the block of deferred calls beside the caller's invariant
    refine (hseq L (fun Z pre W => I (fun b => Z b ∨ b = L ∨ b = D) pre W ∧ W.heap[L]? = some (st .ready none) ∧ W.heap[D]? = some (.deferred (some [])) ∧ ¬ Z L ∧ ¬ Z D)
      (fun pre W => ∃ c, Ix c pre W ∧ W.heap[L]? = some (st .done (some c)) ∧ W.heap[D]? = some (.deferred (some []))) V vB ?_ ?_ ⟨vI, vL, vD, fun h => by have := hZ0 L h; omega, fun h => by have := hZ0 D h; omega⟩).mono ?_
    · rintro Z Z' s A B row ⟨hi, hl, hd, zl, zd⟩ hgr hr hz
      have lA : L < A.heap.size := (Array.getElem?_eq_some_iff.1 hl).1
      have nz : ∀ b, ¬ Z b → b < A.heap.size → B.heap[b]? = A.heap[b]? := fun b hb hlt => hgr.block b hlt (fun e => hb (hr b e.symm))
      refine ⟨hI _ _ _ _ _ row hi hgr (fun r e => .inl (hr r e)) (fun b hb => ?_), (nz L zl lA).trans hl, (nz D zd (by omega)).trans hd, fun h => ?_, fun h => ?_⟩
      · rcases hb with hb | hb
        · rcases hz b hb with h | h
          · exact .inl (.inl h)
          · exact .inr h
        · exact .inl (.inr hb)
      · rcases hz L h with h | h
        · exact zl h
        · omega
      · rcases hz D h with h | h
        · exact zd h
        · omega
    · rintro Z pre x r us W ⟨hi, hl, hd, zl, zd⟩ hx hex
      have lW : L < W.heap.size := (Array.getElem?_eq_some_iff.1 hl).1
      have hl' := hl
      rw [hst] at hl'
      refine ⟨fn, _, assign, body, run_yield hl' (hps _ _ _ _ hex), roundIn_of_wpIn hfn (hassign L _ pre x r us W _ hi hx (hE _ _ _ _ _ _ _ hex hl' hd) ?_)⟩
      intro a1 W1 k1 b1 hax
      have l1 : W1.heap[L]? = some (st .ready none) := (k1 L (.inl (.inr (.inl rfl)))).trans hl
      have d1 : W1.heap[D]? = some (.deferred (some [])) := (k1 D (.inl (.inr (.inr rfl)))).trans hd
      have l1' := l1
      rw [hst] at l1'
      have lt1 : L < W1.heap.size := (Array.getElem?_eq_some_iff.1 l1).1
      obtain ⟨W2, hW2⟩ : ∃ W2, W2 = W1.putObj L (st .busy none) := ⟨_, rfl⟩
      have l2 : W2.heap[L]? = some (st .busy none) := by rw [hW2]; exact World.putObj_heap_same lt1
      have d2 : W2.heap[D]? = some (.deferred (some [])) := by rw [hW2]; exact (World.putObj_heap_other (by omega)).trans d1
      have gz : W1.grownBy W2 (some L) := by rw [hW2]; exact grown_put _ _ _
      have hax2 := hA _ (fun b => Z b ∨ b = L ∨ b = D) _ _ W2 (some L) hax gz (fun r e => by cases e; exact .inr (.inl rfl)) (fun b hb => .inl hb)
      refine ⟨W2, by have h := run_beginRound (P := P) l1' rfl; rw [hW2, hst]; exact h, ?_⟩
      refine wpIn_mono (hbody L _ pre x r a1 W2 hax2 hx) ?_
      have bz2 : Below n0 W W2 := b1.trans ((by rw [hW2]; exact below_put W1 L n0 _ (by omega)) : Below n0 W1 W2)
      have fin : ∀ (jump : Option Code) (W3 : World), KeepZ (fun b => (Z b ∨ b = L ∨ b = D) ∨ K b) W2 W3 → (Instr.endRound L jump).run P W3 = .ok (.bool jump.isNone) (W3.putObj L (st (if jump.isNone then .ready else .done) jump)) ∧ L < W3.heap.size ∧ W3.heap[D]? = some (.deferred (some [])) ∧ ∃ r3, W3.heap[L]? = some (.loop r3) := by
        intro jump W3 k3
        have l3 := (k3 L (.inl (.inr (.inl rfl)))).trans l2
        have lt3 := (Array.getElem?_eq_some_iff.1 l3).1
        rw [hst] at l3
        have h := run_endRound (P := P) jump l3
        exact ⟨by rw [hst]; exact h, lt3, (k3 D (.inl (.inr (.inr rfl)))).trans d2, _, l3⟩
      have kz : ∀ (W3 : World) (o : Obj), KeepZ (fun b => (Z b ∨ b = L ∨ b = D) ∨ K b) W2 W3 → KeepZ (fun b => Z b ∨ K b) W (W3.putObj L o) := fun W3 o k3 b hb => by
        have hbL : b ≠ L := fun e => by
          rcases hb with hb | hb
          · exact zl (e ▸ hb)
          · have := hK0 b hb; omega
        have hb2 : (Z b ∨ b = L ∨ b = D) ∨ K b := hb.imp .inl id
        exact (World.putObj_heap_other hbL).trans ((k3 b hb2).trans ((by rw [hW2]; exact World.putObj_heap_other hbL : W2.heap[b]? = W1.heap[b]?).trans (k1 b hb2)))
      rintro e a3 W3 hp
      cases e with
      | normal =>
        obtain ⟨k3, b3, i3⟩ := hp
        obtain ⟨hr, lt3, d3, r3, l3⟩ := fin none W3 k3
        refine ⟨_, _, hr, .inl ⟨rfl, ⟨hI _ _ _ _ _ (some L) i3 (grown_put W3 L _) (fun r e => by cases e; exact .inr (.inl rfl)) (fun b hb => .inl hb), World.putObj_heap_same lt3, (World.putObj_heap_other (by omega)).trans d3, zl, zd⟩, kz W3 _ k3, bz2.trans (b3.trans (below_put W3 L n0 _ (by omega)))⟩⟩
      | ret =>
        obtain ⟨k3, i3⟩ := hp
        obtain ⟨hr, lt3, d3, r3, l3⟩ := fin (some .ret) W3 k3
        exact ⟨_, _, hr, .inr ⟨rfl, .ret, hIx _ _ _ _ _ _ (by omega) l3 i3, World.putObj_heap_same lt3, (World.putObj_heap_other (by omega)).trans d3⟩⟩
      | exit id =>
        obtain ⟨k3, i3⟩ := hp
        obtain ⟨hr, lt3, d3, r3, l3⟩ := fin (some (.exit id)) W3 k3
        exact ⟨_, _, hr, .inr ⟨rfl, .exit id, hIx _ _ _ _ _ _ (by omega) l3 i3, World.putObj_heap_same lt3, (World.putObj_heap_other (by omega)).trans d3⟩⟩
      | goto t =>
        obtain ⟨k3, i3⟩ := hp
        obtain ⟨hr, lt3, d3, r3, l3⟩ := fin (some (.goto t)) W3 k3
        exact ⟨_, _, hr, .inr ⟨rfl, .goto t, hIx _ _ _ _ _ _ (by omega) l3 i3, World.putObj_heap_same lt3, (World.putObj_heap_other (by omega)).trans d3⟩⟩
      | panic ch => exact hp.elim
      | outgrown => exact hp.elim
    · rintro e W2 ⟨⟨v, rfl⟩, (⟨Z, hi, hl, hd, zl, zd⟩ | ⟨pre, x, r, hx, c, hi, hl, hd⟩)⟩
      · have hl' := hl
        rw [hst] at hl'
        refine ⟨none, _, run_endLoop (P := P) hl' (by simp), hdone _ _ (hI _ (fun b => Z b ∨ b = L ∨ b = D) _ _ _ (some L) hi (grown_put _ _ _) (fun r e => by cases e; exact .inr (.inl rfl)) (fun b hb => .inl hb)) ((World.putObj_heap_other (by omega)).trans hd)⟩
      · have hl' := hl
        rw [hst] at hl'
        exact ⟨some c, _, run_endLoop (P := P) hl' (by simp), hstop c pre x r _ hx (hIx _ _ _ _ _ _ (by omega) hl' hi) ((World.putObj_heap_other (by omega)).trans hd)⟩
end
end Go.Proofs.YtebgebgkieglhaaGreatDoor.FieldW
end
section
/- field: the iterator over a file's lines. -/
namespace Go.Proofs.YtebgebgkieglhaaGreatDoor.FieldW
open Go.RowKit Go.Shelf Go.Lib Go.Proofs Go.Proofs.YtebgebgkieglhaaGreatDoorW.PrintWords Go.Proofs.YtebgebgkieglhaaGreatDoorW.PrintLast Go.Proofs.YtebgebgkieglhaaGreatDoorW.PrintMore Go.Proofs.YtebgebgkieglhaaGreatDoor.PRef
set_option linter.unusedVariables false
set_option linter.unusedSimpArgs false

/-- Without a carriage return at its end. -/
def trimCR (x : ByteArray) : ByteArray := ⟨(Lib.trimSuffix x.data.toList [13]).toArray⟩
theorem trimCR_len (x : ByteArray) : (trimCR x).size ≤ x.size := by
  have h : (Lib.trimSuffix x.data.toList [13]).length ≤ x.data.toList.length := by
    unfold Lib.trimSuffix
    split
    · simp
    · exact Nat.le_refl _
  have h2 : x.data.toList.length = x.size := by simp
  show (Lib.trimSuffix x.data.toList [13]).toArray.size ≤ x.size
  rw [List.size_toArray]; omega
theorem trimCR_calls (x : ByteArray) (w : World) (hs : x.size ≤ 9223372036854775807) : Calls Tryz.prog 97 #[.string x, .string ⟨#[13]⟩] w fun e w' => e = .returned (.string (trimCR x)) ∧ w' = w :=
  Any.strings_TrimSuffix Tryz.trimSuffixL x ⟨#[13]⟩ w hs
/-- The lines that have fields, with their numbers. -/
def linesOf : Nat → List ByteArray → List (Nat × List ByteArray)
  | _, [] => []
  | i, x :: r => if fieldsB (trimCR x) = [] then linesOf (i + 1) r else (i + 1, fieldsB (trimCR x)) :: linesOf (i + 1) r
theorem linesOf_append : ∀ (a b : List ByteArray) (i : Nat), linesOf i (a ++ b) = linesOf i a ++ linesOf (i + a.length) b
  | [], b, i => by simp [linesOf]
  | x :: a, b, i => by
    rw [List.cons_append, linesOf, linesOf, linesOf_append a b (i + 1)]
    have : i + 1 + a.length = i + (x :: a).length := by simp; omega
    rw [this]
    split <;> simp
theorem grown_of_below {A B : World} (h : Go.RowKit.Below A.heap.size A B) : A.grownBy B none := ⟨h.os, h.tape, h.output, h.size, fun k hk _ => h.block k hk⟩
/-- What is yielded reads as the line. -/
def lineE (base : Nat) (Z : Nat → Prop) (x : Nat × List ByteArray) (us : Array Value) (W : World) : Prop :=
  ∃ v, us = #[.agg #[.int .i64 (x.1 : Int), v]] ∧ Kd.R Kd.string 9 W base (fun k => ¬ Z k) v x.2
theorem lineE_abides (base : Nat) : EAbides (lineE base) := by
  rintro Z x us W L D rL ⟨v, rfl, h⟩ hL hD
  refine ⟨v, rfl, Kd.R_mono (Kd.R_bound h) ?_⟩
  rintro k ⟨h1, h2, h3, q, hq, cells, h4⟩ h5
  rcases h5 with h5 | h5 | h5
  · exact h1 h5
  · rw [h5, hL] at h4; cases h4
  · rw [h5, hD] at h4; cases h4
set_option maxHeartbeats 4000000 in
set_option maxRecDepth 100000 in
theorem lines_own {w : World} {Bc B n0 : Nat} {m : Int} {ls : List ByteArray} (hm : w.cell? ⟨1, 0, none⟩ = some (.int .i64 m)) (h1 : 1 < n0) (hn0 : n0 ≤ w.heap.size) (hc : w.heap[Bc]? = some (.cells #[.slice (some ⟨B, 0, none⟩) ls.length ls.length] 98 (0, 0))) (hr : w.heap[B]? = some (.cells (ls.map Value.string).toArray 9 (0, 0)))
    (hl : ls.length ≤ 1000001) (hsz : ∀ x ∈ ls, x.size ≤ 1000000) :
    SeqE 3 Tryz.prog 95 #[.pointer (some ⟨Bc, 0, none⟩)] (lineE n0) n0 (fun b => b = Bc ∨ b = B) (fun _ => False) (linesOf 0 ls) w := by
  intro lp J Jx W hW hJ hY h0
  have HJ := Aside0.mk hJ
  have HY := Aside0.mk hY
  have c0 := (hW.block _ (blk_lt hc)).trans hc
  have r0 := (hW.block _ (blk_lt hr)).trans hr
  have m0 : W.cell? ⟨1, 0, none⟩ = some (.int .i64 m) := (hW.cell (p := ⟨1, 0, none⟩) (lt_of_cell hm)).trans hm
  have cc : W.cell? ⟨Bc, 0, none⟩ = some (.slice (some ⟨B, 0, none⟩) ls.length ls.length) := (blk_cell c0 0).trans rfl
  have H0 := Aside0.mk (And.intro h0 (And.intro c0 (And.intro r0 m0)))
  have HS := Aside0.mk hsz
  have HN := Aside0.mk (And.intro h1 (Nat.le_trans hn0 hW.size))
  have hlz : (ls.length : Int) ≤ 1000001 := by omega
  have u98 := Tryz.underlying98
  clear hJ hY h0 hm hc hr c0 r0 m0 hsz h1 hn0
  refine callsIn_of_wp Tryz.func95 rfl trivial ?_ rfl
  simp only [Tryz.ntmps95, List.size_toArray, List.length_cons, List.length_nil, Nat.reduceAdd, Nat.reduceSub, Array.replicate_succ, Array.replicate_zero, List.push_toArray, List.append_toArray, List.nil_append, List.cons_append]
  refine wpIn_wide.2 ?_
  go_wp2_with fail
  go_loopg [3, 4, 5, 8] ls.length (fun gg _ _ _ s8 wr => ∃ kk : Nat, kk ≤ ls.length ∧ ls.length - kk ≤ gg ∧ s8 = .int .i64 kk ∧ Aside0 (J (fun _ => False) (linesOf 0 (ls.take kk)) wr ∧ wr.heap[Bc]? = some (.cells #[.slice (some ⟨B, 0, none⟩) ls.length ls.length] 98 (0, 0)) ∧ wr.heap[B]? = some (.cells (ls.map Value.string).toArray 9 (0, 0)) ∧ wr.cell? ⟨1, 0, none⟩ = some (.int .i64 m) ∧ n0 ≤ wr.heap.size))
  case atStart => exact ⟨0, Nat.zero_le _, by omega, rfl, ⟨H0.out.1, H0.out.2.1, H0.out.2.2.1, H0.out.2.2.2, HN.out.2⟩⟩
  case round =>
    obtain ⟨kk, hkk, hg, rfl, HI⟩ := hrel
    by_cases hlt : kk < ls.length
    · have hltz : (kk : Int) < (ls.length : Int) := by omega
      obtain ⟨x, hx⟩ : ∃ x, x = ls[kk] := ⟨_, rfl⟩
      have hcell : wr.cell? ⟨B, kk, none⟩ = some (.string x) := by
        rw [blk_cell HI.out.2.2.1, List.getElem?_toArray, List.getElem?_map, List.getElem?_eq_getElem hlt, hx]; rfl
      have hxs : x.size ≤ 1000000 := HS.out x (by rw [hx]; exact List.getElem_mem hlt)
      have hxt : (trimCR x).size ≤ 1000000 := Nat.le_trans (trimCR_len x) hxs
      have hL : linesOf 0 (ls.take (kk + 1)) = linesOf 0 (ls.take kk) ++ linesOf kk [x] := by
        rw [List.take_succ_eq_append_getElem hlt, linesOf_append, ← hx]
        congr 1
        simp [Nat.min_eq_left hkk]
      have hA : linesOf 0 ls = linesOf 0 (ls.take kk) ++ (linesOf kk [x] ++ linesOf (kk + 1) (ls.drop (kk + 1))) := by
        rw [← List.append_assoc, ← hL]
        have h2 := linesOf_append (ls.take (kk + 1)) (ls.drop (kk + 1)) 0
        rw [List.take_append_drop] at h2
        rw [h2]
        congr 2
        simp; omega
      have HX := Aside0.mk (And.intro hL (And.intro hA hx))
      have CF := Aside0.mk (fields_calls (trimCR x) wr m hxt HI.out.2.2.2.1)
      have CT := Aside0.mk (trimCR_calls x wr (by omega))
      obtain ⟨tx, htx⟩ : ∃ tx, tx = trimCR x := ⟨_, rfl⟩
      rw [← htx] at CT CF
      have HTX := Aside0.mk htx
      clear hL hA hx htx hxt
      by_cases hF : fieldsB tx = []
      · have HF := Aside0.mk hF
        have CF2 : Aside0 (Calls Tryz.prog 96 #[.string tx] wr fun e w' => e = .returned (.slice none 0 0) ∧ Go.RowKit.Below wr.heap.size wr w') := ⟨CF.out.mono fun e w' ⟨v, h1, h2, h3, h4⟩ => ⟨by rw [h1, h3 HF.out], h4⟩⟩
        clear hF CF
        go_wp2_with (first
          | (go_at_call 97; refine CT.out.mono ?_; rintro e w2 ⟨rfl, rfl⟩)
          | (go_at_call 96; refine CF2.out.mono ?_; rintro e w3 ⟨rfl, hq⟩; have HQ := Aside0.mk hq; clear hq CF2 CT))
        go_roundg (ls.length - (kk + 1))
        case measure => omega
        case rel =>
          have hx0 : linesOf kk [x] = [] := by rw [linesOf, ← HTX.out, if_pos HF.out]; rfl
          refine ⟨kk + 1, by omega, by omega, by go_num, ⟨?_, (HQ.out.block _ (blk_lt HI.out.2.1)).trans HI.out.2.1, (HQ.out.block _ (blk_lt HI.out.2.2.1)).trans HI.out.2.2.1, (HQ.out.cell (p := ⟨1, 0, none⟩) (lt_of_cell HI.out.2.2.2.1)).trans HI.out.2.2.2.1, Nat.le_trans HI.out.2.2.2.2 HQ.out.size⟩⟩
          rw [HX.out.1, hx0, List.append_nil]
          exact HJ.out _ _ _ _ _ none HI.out.1 (grown_of_below HQ.out) (fun r e => by cases e) (fun b hb => .inl hb)
      · have hpos : 0 < (fieldsB tx).length := List.length_pos_iff.2 hF
        have hx1 : linesOf kk [x] = [(kk + 1, fieldsB tx)] := by rw [linesOf, ← HTX.out, if_neg hF]; rfl
        have HP := Aside0.mk (And.intro hpos hx1)
        clear hF hpos hx1
        go_wp2_with (first
          | (go_at_call 97; refine CT.out.mono ?_; rintro e w2 ⟨rfl, rfl⟩)
          | (go_at_call 96; refine CF.out.mono ?_; rintro e w3 ⟨v, rfl, hR, hnil, hq⟩; obtain ⟨ad, c5, rfl⟩ := Kd.R_slice1 hR HP.out.1; have HQ := Aside0.mk (And.intro hq hR); clear hq hR hnil CF CT; refine Aside0.out ?_))
        refine Aside0.mk ?_
        have hj3 : J (fun _ => False) (linesOf 0 (ls.take kk)) w3 := HJ.out _ _ _ _ _ none HI.out.1 (grown_of_below HQ.out.1) (fun r e => by cases e) (fun b hb => .inl hb)
        have hall : linesOf 0 ls = linesOf 0 (ls.take kk) ++ (kk + 1, fieldsB tx) :: linesOf (kk + 1) (ls.drop (kk + 1)) := by rw [HX.out.2.1, HP.out.2]; rfl
        have hE : lineE n0 (fun _ => False) (kk + 1, fieldsB tx) #[.agg #[.int .i64 ((kk + 1 : Nat) : Int), .slice (some ad) (fieldsB tx).length c5]] w3 := ⟨_, rfl, Kd.R_lower (Kd.R_mono HQ.out.2 (fun _ _ h => h)) HI.out.2.2.2.2⟩
        obtain ⟨fn, tmps, assign, body, hy, hRy⟩ := HY.out _ _ _ _ _ _ hj3 hall hE
        have HR2 := Aside0.mk hRy
        have HALL := Aside0.mk hall
        clear hRy hall hE hj3
        have ek : ((kk + 1 : Nat) : Int) = (kk : Int) + 1 := by omega
        rw [ek] at hy
        clear ek
        go_upto_region 4 with fail
        refine (wpIn_wide (n := 3)).1 ?_
        gi_wp2
        refine HR2.out.mono ?_
        rintro e W3 (⟨rfl, hJ3, hk3, hb3⟩ | ⟨rfl, hJx3⟩)
        · have H3 := Aside0.mk (And.intro hJ3 (And.intro hk3 hb3))
          clear hJ3 hk3 hb3
          gi_wp2
          go_wp2
          go_roundg (ls.length - (kk + 1))
          case measure => omega
          case rel =>
            have q := HQ.out.1
            refine ⟨kk + 1, by omega, by omega, by go_num, ⟨?_, ((H3.out.2.1 Bc (.inr (.inl rfl))).trans (q.block _ (blk_lt HI.out.2.1))).trans HI.out.2.1, ((H3.out.2.1 B (.inr (.inr rfl))).trans (q.block _ (blk_lt HI.out.2.2.1))).trans HI.out.2.2.1, ((H3.out.2.2.cell (p := ⟨1, 0, none⟩) HN.out.1).trans (q.cell (p := ⟨1, 0, none⟩) (lt_of_cell HI.out.2.2.2.1))).trans HI.out.2.2.2.1, Nat.le_trans HI.out.2.2.2.2 (Nat.le_trans q.size H3.out.2.2.size)⟩⟩
            rw [HX.out.1, HP.out.2]
            exact H3.out.1
        · gi_wp2
          go_wp2
          refine bodyPost_ret (results_none rfl _ _ _) rfl ?_
          exact ⟨⟨_, rfl⟩, .inr ⟨_, _, _, HALL.out, hJx3⟩⟩
    · have hltz : ¬ (kk : Int) < (ls.length : Int) := by omega
      have : kk = ls.length := by omega
      subst this
      go_wp2
      go_end0
      exact ⟨⟨_, rfl⟩, .inl ⟨_, by have h := HI.out.1; rw [List.take_length] at h; exact h⟩⟩
end Go.Proofs.YtebgebgkieglhaaGreatDoor.FieldW
end
section
/- field: Lines. -/
namespace Go.Proofs.YtebgebgkieglhaaGreatDoor.FieldW
open Go.RowKit Go.Shelf Go.Lib Go.Proofs Go.Proofs.YtebgebgkieglhaaGreatDoorW.PrintWords Go.Proofs.YtebgebgkieglhaaGreatDoorW.PrintLast Go.Proofs.YtebgebgkieglhaaGreatDoorW.PrintMore Go.Proofs.YtebgebgkieglhaaGreatDoor.PRef
set_option linter.unusedVariables false
set_option linter.unusedSimpArgs false

/-- Octets as a slice of bytes holds them. -/
def numB (s : List UInt8) : List Int := s.map fun b => (b.toNat : Int)
theorem numB_len (s : List UInt8) : (numB s).length = s.length := by simp [numB]
theorem str_numB (s : List UInt8) : strOfNums (numB s) = ⟨s.toArray⟩ := by
  unfold strOfNums numB
  rw [List.map_map]
  congr 2
  rw [List.map_congr_left (g := id)]
  · simp
  · intro b _; simp
theorem clone_c (A : Option Addr) (c : Nat) (s : List UInt8) (w : World) (hr : Kd.C (Kd.int .u8) w A s.length (numB s)) (hl : s.length ≤ 1000000) :
    Calls Tryz.prog 94 #[.slice A s.length c] w fun e w' => ∃ v, e = .returned v ∧ (convert 22 9 v).run Tryz.prog w' = .ok (.string ⟨s.toArray⟩) w' ∧ Go.RowKit.Below w.heap.size w w' := by
  cases A with
  | none =>
    have h0 : s = [] := by
      cases s with
      | nil => rfl
      | cons b r =>
        obtain ⟨ad, e, _⟩ := Kd.at_int hr 0 (by omega) (by simp)
        cases e
    subst h0
    refine (Any.bytes_Clone_nil Tryz.cloneBL 0 c w).mono ?_
    rintro e w' ⟨rfl, rfl⟩
    exact ⟨_, rfl, run_convert_bytes_nil _ 22 5 Tryz.underlying22 Tryz.underlying5 0 0 9 Tryz.underlying9, Go.RowKit.Below.refl _ _⟩
  | some a =>
    refine (Any.bytes_Clone_at Tryz.cloneBL a s.length c (numB s) w (numB_len s) (by omega) (fun i hi => ?_)).mono ?_
    · obtain ⟨ad, e, h⟩ := Kd.at_int hr i (by omega) (by omega)
      injection e with e
      subst e
      rw [Int.toNat_natCast] at h
      rw [h]
      simp [rd]
    · rintro e w' ⟨v, rfl, ho, _, hb⟩
      refine ⟨v, rfl, ?_, hb⟩
      have := own_string (src := 22) (dst := 9) Tryz.underlying22 Tryz.underlying5 Tryz.underlying9 ho
      rw [this, str_numB]
set_option maxRecDepth 100000 in
set_option maxHeartbeats 4000000 in
/-- Lines hands its iterator on, with the pieces of the text. -/
theorem lines_calls (A : Option Addr) (c : Nat) (s : List UInt8) (w : World) (m : Int) (hr : Kd.C (Kd.int .u8) w A s.length (numB s)) (hl : s.length ≤ 1000000) (hm : w.cell? ⟨1, 0, none⟩ = some (.int .i64 m)) :
    Calls Tryz.prog 76 #[.slice A s.length c] w fun e w' => ∃ Bc B, e = .returned (.func (.func 95) #[] #[.pointer (some ⟨Bc, 0, none⟩)]) ∧ w.heap.size ≤ Bc ∧ w.heap.size ≤ B ∧
      w'.heap[Bc]? = some (.cells #[.slice (some ⟨B, 0, none⟩) (pieceB 10 ⟨s.toArray⟩).length (pieceB 10 ⟨s.toArray⟩).length] 98 (0, 0)) ∧ w'.heap[B]? = some (.cells ((pieceB 10 ⟨s.toArray⟩).map Value.string).toArray 9 (0, 0)) ∧ Go.RowKit.Below w.heap.size w w' := by
  have CC := Aside0.mk (clone_c A c s w hr hl)
  have hsz : (⟨s.toArray⟩ : ByteArray).size = s.length := by show s.toArray.size = _; simp
  obtain ⟨t, ht⟩ : ∃ t : ByteArray, t = ⟨s.toArray⟩ := ⟨_, rfl⟩
  rw [← ht] at CC hsz
  rw [← ht]
  have CS : Aside0 (∀ W : World, Go.RowKit.Below w.heap.size w W → Calls Tryz.prog 93 #[.string t, .string ⟨#[10]⟩] W fun e w' => e = .returned (.slice (some ⟨W.heap.size, 0, none⟩) (pieceB 10 t).length (pieceB 10 t).length) ∧ w' = W.alloc (.cells ((pieceB 10 t).map Value.string).toArray 9)) := ⟨fun W h => split_c 10 t W m (by omega) ((h.cell (p := ⟨1, 0, none⟩) (lt_of_cell hm)).trans hm)⟩
  obtain ⟨ps, hps⟩ : ∃ ps, ps = pieceB 10 t := ⟨_, rfl⟩
  rw [← hps] at CS
  rw [← hps]
  clear hr hm ht hps
  go_enter Tryz.func76, Tryz.ntmps76
  go_wp2_with (first
    | (go_at_call 94; refine CC.out.mono ?_; rintro e w2 ⟨v, rfl, hcv, hq⟩; have HB := Aside0.mk hq; clear hq CC)
    | (go_at_call 93; refine (CS.out _ HB.out).mono ?_; rintro e w3 ⟨rfl, hq⟩; have HQ := Aside0.mk hq; clear hq CS))
  go_ret
  have h3 : w3.heap[w2.heap.size]? = some (.cells (ps.map Value.string).toArray 9 (0, 0)) := by rw [HQ.out]; exact heap_alloc_new _ _
  have hb3 : Go.RowKit.Below w.heap.size w w3 := by rw [HQ.out]; exact below_alloc HB.out _
  exact ⟨w3.heap.size, w2.heap.size, rfl, hb3.size, HB.out.size, heap_alloc_new _ _, (Go.RowKit.Below.heap_alloc _ _ _ (blk_lt h3)).trans h3, below_alloc hb3 _⟩
end Go.Proofs.YtebgebgkieglhaaGreatDoor.FieldW
end
section
/- unicode: the small functions over a line's fields. -/
namespace Go.Proofs.YtebgebgkieglhaaGreatDoor.FieldW
open Go.RowKit Go.Shelf Go.Lib Go.Proofs Go.Proofs.YtebgebgkieglhaaGreatDoorW.PrintWords Go.Proofs.YtebgebgkieglhaaGreatDoorW.PrintLast Go.Proofs.YtebgebgkieglhaaGreatDoorW.PrintMore Go.Proofs.YtebgebgkieglhaaGreatDoor.PRef
set_option linter.unusedVariables false
set_option linter.unusedSimpArgs false

/-- Are all octets from one to another one? -/
def letS (l : List UInt8) (lo hi : Nat) : Bool := l.all fun b => decide (lo ≤ b.toNat) && decide (b.toNat ≤ hi)
theorem below_iter (w : World) (s : ByteArray) (p : Nat) : Go.RowKit.Below w.heap.size w (w.iter s p) := below_alloc (Go.RowKit.Below.refl _ _) _
set_option maxRecDepth 100000 in
set_option maxHeartbeats 4000000 in
theorem letters_calls (s : ByteArray) (lo hi : Nat) (hh : hi ≤ 127) (hlo : lo ≤ 127) (w : World) :
    Calls Tryz.prog 117 #[.string s, .int .i32 lo, .int .i32 hi] w fun e w' => e = .returned (.bool (letS s.data.toList lo hi)) ∧ Go.RowKit.Below w.heap.size w w' := by
  go_enter Tryz.func117, Tryz.ntmps117
  go_wp2
  go_loopw [8] (fun _ w' => ∃ pos, w' = w.iter s pos ∧ pos ≤ s.size ∧ Aside0 (letS (s.data.toList.take pos) lo hi = true)) (fun _ w' => s.size - w'.iterPos w.heap.size)
  case atStart => exact ⟨0, rfl, Nat.zero_le _, ⟨rfl⟩⟩
  case round =>
    obtain ⟨pos, rfl, hps, hA⟩ := hrel
    by_cases hp : pos < s.size
    · have hd := decode_ascii s pos hp
      have hd2 := decode_high s pos hp
      have hlen : s.data.toList.length = s.size := by simp
      have htk : letS (s.data.toList.take (pos + 1)) lo hi = (decide (lo ≤ (s[pos]'hp).toNat) && decide ((s[pos]'hp).toNat ≤ hi)) := by
        rw [List.take_succ_eq_append_getElem (by omega)]
        have := hA.out
        unfold letS at this ⊢
        rw [List.all_append, this]
        simp
        rfl
      have hno : letS (s.data.toList.take (pos + 1)) lo hi = false → letS s.data.toList lo hi = false := by
        intro h
        unfold letS at h ⊢
        rw [List.all_eq_false] at h ⊢
        obtain ⟨x, hx, hx2⟩ := h
        exact ⟨x, List.mem_of_mem_take hx, hx2⟩
      obtain ⟨d, hdd⟩ : ∃ d, d = Utf8.decode s pos := ⟨_, rfl⟩
      obtain ⟨r, n⟩ := d
      rw [← hdd] at hd hd2
      have hnx : ∀ ty, (Instr.next (.pointer (some ⟨w.heap.size, 0, none⟩)) true ty).run Tryz.prog (w.iter s pos) = .ok (.tuple #[.bool true, .int .i64 pos, .int .i32 r]) (w.iter s (pos + n)) := fun ty => by have h := run_next_any (P := Tryz.prog) w s pos ty hp; rw [← hdd] at h; exact h
      obtain ⟨b, hb⟩ : ∃ b : Nat, b = (s[pos]'hp).toNat := ⟨_, rfl⟩
      rw [← hb] at hd hd2 htk
      have H := Aside0.mk (And.intro htk hno)
      clear htk hno hdd hb hlen
      by_cases hasc : b < 128
      · have e1 := hd hasc
        injection e1 with e1 e2
        subst e1 e2
        clear hd hd2
        by_cases h1 : r < lo
        · have h1i : (r : Int) < (lo : Int) := by omega
          go_wp2
          go_ret
          refine ⟨?_, below_iter _ _ _⟩
          rw [H.out.2 (by rw [H.out.1]; simp; omega)]
          rfl
        · have h1i : ¬ (r : Int) < (lo : Int) := by omega
          by_cases h2 : hi < r
          · have h2i : (r : Int) > (hi : Int) := by omega
            go_wp2
            go_ret
            refine ⟨?_, below_iter _ _ _⟩
            rw [H.out.2 (by rw [H.out.1]; simp; omega)]
            rfl
          · have h2i : ¬ (r : Int) > (hi : Int) := by omega
            go_wp2
            go_roundw
            case rel =>
              refine ⟨pos + 1, rfl, by omega, ⟨?_⟩⟩
              rw [H.out.1]; simp; omega
            case measure => simp; omega
      · have e1 := hd2 (by omega)
        clear hd hd2
        have h1i : ¬ (r : Int) < (lo : Int) := by omega
        have h2i : (r : Int) > (hi : Int) := by omega
        go_wp2
        go_ret
        refine ⟨?_, below_iter _ _ _⟩
        rw [H.out.2 (by rw [H.out.1]; simp; omega)]
        rfl
    · have hnx : ∀ ty, (Instr.next (.pointer (some ⟨w.heap.size, 0, none⟩)) true ty).run Tryz.prog (w.iter s pos) = _ := fun ty => run_next_end w s pos ty hp
      go_wp2
      go_ret
      refine ⟨?_, below_iter _ _ _⟩
      have := hA.out
      rw [List.take_of_length_le (by simp; omega)] at this
      rw [this]
      rfl
end Go.Proofs.YtebgebgkieglhaaGreatDoor.FieldW
end
section
/- unicode: category, class, decomp; the tables that a call reads. -/
namespace Go.Proofs.YtebgebgkieglhaaGreatDoor.FieldW
open Go.RowKit Go.Shelf Go.Lib Go.Proofs Go.Proofs.YtebgebgkieglhaaGreatDoorW.PrintWords Go.Proofs.YtebgebgkieglhaaGreatDoorW.PrintLast Go.Proofs.YtebgebgkieglhaaGreatDoorW.PrintMore Go.Proofs.YtebgebgkieglhaaGreatDoor.PRef
set_option linter.unusedVariables false
set_option linter.unusedSimpArgs false

/-- The first and last code points of Hangul, in a row. -/
def hangL : List Int := [4352, 4370, 4449, 4469, 4520, 4546, 44032, 55203]
/-- What the package-level variables hold that the calls read. -/
structure Tabs (w : World) : Prop where
  bits : w.cell? ⟨9, 15, none⟩ = some (.int .u8 4)
  most : ∃ m, w.cell? ⟨1, 0, none⟩ = some (.int .i64 m)
  synt : ∃ ev, w.cell? ⟨4, 0, none⟩ = some ev ∧ (ev = .nilIface ∨ ∃ te pe, ev = .iface te pe)
  rang : ∃ ev, w.cell? ⟨5, 0, none⟩ = some ev ∧ (ev = .nilIface ∨ ∃ te pe, ev = .iface te pe)
  pow : Lib.TabIs Tryz.prog w "internal/strconv.uint64pow10" .u64 Lib.pow10Tab
  hang : ∀ i x, hangL[i]? = some x → w.cell? ⟨0, i, none⟩ = some (.int .i64 x)
  size : 9 < w.heap.size
theorem gPow : Tryz.prog.globalNamed "internal/strconv.uint64pow10" = some 7 := by kernel_rfl
theorem Tabs.below {w w' : World} (h : Tabs w) (hb : Go.RowKit.Below w.heap.size w w') : Tabs w' := by
  have hs := h.size
  have k : ∀ (g i : Nat) v, w.cell? ⟨g, i, none⟩ = some v → w'.cell? ⟨g, i, none⟩ = some v := fun g i v hv => (hb.cell (p := ⟨g, i, none⟩) (lt_of_cell hv)).trans hv
  refine ⟨k _ _ _ h.bits, ?_, ?_, ?_, var?_below hb gPow (by omega) h.pow, fun i x hx => k _ _ _ (h.hang i x hx), Nat.lt_of_lt_of_le hs hb.size⟩
  · obtain ⟨m, hm⟩ := h.most; exact ⟨m, k _ _ _ hm⟩
  · obtain ⟨m, hm, h2⟩ := h.synt; exact ⟨m, k _ _ _ hm, h2⟩
  · obtain ⟨m, hm, h2⟩ := h.rang; exact ⟨m, k _ _ _ hm, h2⟩
/-- Is a text a general category? -/
def catS (l : List UInt8) : Bool := l.length == 2 && letS (l.take 1) 65 90 && letS (l.drop 1) 97 122
set_option maxRecDepth 100000 in
set_option maxHeartbeats 4000000 in
theorem category_calls (s : ByteArray) (w : World) : Calls Tryz.prog 116 #[.string s] w fun e w' => e = .returned (.bool (catS s.data.toList)) ∧ Go.RowKit.Below w.heap.size w w' := by
  have hlen : s.data.toList.length = s.size := by simp
  by_cases h2 : s.size = 2
  · have h2i : (s.size : Int) = 2 := by omega
    have h2b : ((s.size : Int) == 2) = true := by rw [beq_iff_eq]; exact h2i
    obtain ⟨x, hx⟩ : ∃ x, x = s.extract 0 1 := ⟨_, rfl⟩
    obtain ⟨y, hy⟩ : ∃ y, y = s.extract 1 s.size := ⟨_, rfl⟩
    have hxd : x.data.toList = s.data.toList.take 1 := by rw [hx]; simp
    have hyd : y.data.toList = s.data.toList.drop 1 := by
      rw [hy]; simp
      exact List.take_of_length_le (by simp)
    have C1 : ∀ W : World, Calls Tryz.prog 117 #[.string x, .int .i32 65, .int .i32 90] W fun e w' => e = .returned (.bool (letS (s.data.toList.take 1) 65 90)) ∧ Go.RowKit.Below W.heap.size W w' := fun W => by
      have h := letters_calls x 65 90 (by omega) (by omega) W
      rw [hxd] at h; exact h
    have C2 : ∀ W : World, Calls Tryz.prog 117 #[.string y, .int .i32 97, .int .i32 122] W fun e w' => e = .returned (.bool (letS (s.data.toList.drop 1) 97 122)) ∧ Go.RowKit.Below W.heap.size W w' := fun W => by
      have h := letters_calls y 97 122 (by omega) (by omega) W
      rw [hyd] at h; exact h
    have hc : catS s.data.toList = (letS (s.data.toList.take 1) 65 90 && letS (s.data.toList.drop 1) 97 122) := by
      unfold catS
      rw [hlen, h2]; rfl
    have D1 := Aside0.mk C1
    have D2 := Aside0.mk C2
    have D3 := Aside0.mk hc
    clear C1 C2 hc hxd hyd hlen
    cases hb1 : letS (s.data.toList.take 1) 65 90 with
    | false =>
      rw [hb1] at D1 D3
      rw [hx] at D1
      clear hb1 hx hy D2 h2
      go_enter Tryz.func116, Tryz.ntmps116
      go_wp2_with (go_at_call 117; with_reducible refine (D1.out _).mono ?_; rintro e w2 ⟨rfl, hq⟩; have HB := Aside0.mk hq; clear hq)
      go_ret
      exact ⟨by rw [D3.out]; rfl, HB.out⟩
    | true =>
      rw [hb1] at D1 D3
      cases hb2 : letS (s.data.toList.drop 1) 97 122 with
      | false =>
        rw [hb2] at D2 D3
        rw [hx] at D1
        rw [hy] at D2
        clear hb1 hb2 hx hy h2
        go_enter Tryz.func116, Tryz.ntmps116
        go_wp2_with (first | (go_at_call 117; with_reducible refine (D1.out _).mono ?_; rintro e w2 ⟨rfl, hq⟩; have HB := Aside0.mk hq; clear hq) | (go_at_call 117; with_reducible refine (D2.out _).mono ?_; rintro e w3 ⟨rfl, hq⟩; have HB3 := Aside0.mk (below_step HB.out hq); clear hq))
        go_ret
        exact ⟨by rw [D3.out]; rfl, HB3.out⟩
      | true =>
        rw [hb2] at D2 D3
        rw [hx] at D1
        rw [hy] at D2
        clear hb1 hb2 hx hy h2
        go_enter Tryz.func116, Tryz.ntmps116
        go_wp2_with (first | (go_at_call 117; with_reducible refine (D1.out _).mono ?_; rintro e w2 ⟨rfl, hq⟩; have HB := Aside0.mk hq; clear hq) | (go_at_call 117; with_reducible refine (D2.out _).mono ?_; rintro e w3 ⟨rfl, hq⟩; have HB3 := Aside0.mk (below_step HB.out hq); clear hq))
        go_ret
        exact ⟨by rw [D3.out]; rfl, HB3.out⟩
  · have h2i : ¬ (s.size : Int) = 2 := by omega
    have h2b : ((s.size : Int) == 2) = false := by rw [beq_eq_false_iff_ne]; exact h2i
    have hc : catS s.data.toList = false := by
      unfold catS
      rw [hlen, show (s.size == 2) = false by rw [beq_eq_false_iff_ne]; exact h2]; rfl
    have D3 := Aside0.mk hc
    clear hc hlen
    go_enter Tryz.func116, Tryz.ntmps116
    go_wp2
    go_ret
    exact ⟨by rw [D3.out]; rfl, by repeat (first | exact Go.RowKit.Below.refl _ _ | apply pw_below_drewN | apply below_drew1)⟩
end Go.Proofs.YtebgebgkieglhaaGreatDoor.FieldW
end
section
/- unicode: class, decomp; field: Range. -/
namespace Go.Proofs.YtebgebgkieglhaaGreatDoor.FieldW
open Go.RowKit Go.Shelf Go.Lib Go.Proofs Go.Proofs.YtebgebgkieglhaaGreatDoorW.PrintWords Go.Proofs.YtebgebgkieglhaaGreatDoorW.PrintLast Go.Proofs.YtebgebgkieglhaaGreatDoorW.PrintMore Go.Proofs.YtebgebgkieglhaaGreatDoor.PRef
set_option linter.unusedVariables false
set_option linter.unusedSimpArgs false

/-- The number that Atoi gives beside an error. -/
def atoiR (l : List UInt8) : Int := match Lib.atoiAll l with
  | .ok v => v
  | .range => Lib.atoiSat l
  | _ => 0
/-- How Atoi ends: a number and no error, or an error. -/
theorem atoi_calls (s : ByteArray) (w : World) (hs : s.size ≤ 1000000) (T : Tabs w) :
    Calls Tryz.prog 138 #[.string s] w fun e w' => ((∃ v, Lib.atoiAll s.data.toList = .ok v ∧ e = .returned (.tuple #[.int .i64 v, .nilIface])) ∨ ((∀ v, Lib.atoiAll s.data.toList ≠ .ok v) ∧ ∃ N, e = .returned (.tuple #[.int .i64 (atoiR s.data.toList), .iface 233 (.pointer (some ⟨N, 0, none⟩))]))) ∧ Go.RowKit.Below w.heap.size w w' := by
  cases h : Lib.atoiAll s.data.toList
  · rename_i v
    refine (Any.strconv_Atoi_ok Tryz.atoiL s (by omega) v h w).mono ?_
    rintro e w' ⟨rfl, h2⟩
    refine ⟨.inl ⟨v, rfl, rfl⟩, ?_⟩
    rcases h2 with rfl | ⟨t, rfl⟩
    · exact Go.RowKit.Below.refl _ _
    · exact ⟨rfl, rfl, rfl, by rw [Lib.bytesWorld_size]; omega, fun k hk => Lib.bytesWorld_at_old _ _ _ _ hk⟩
  · obtain ⟨ev, h1, h2⟩ := T.synt
    refine (Any.strconv_Atoi_syntax Tryz.atoiL s (by omega) h ev w h1 h2).mono ?_
    rintro e w' ⟨N, rfl, _, _, hb⟩
    exact ⟨.inr ⟨(fun v e => by cases e), ⟨N, by unfold atoiR; rw [h]; rfl⟩⟩, hb⟩
  · obtain ⟨ev, h1, h2⟩ := T.rang
    refine (Any.strconv_Atoi_range Tryz.atoiL s (by omega) h ev w h1 h2).mono ?_
    rintro e w' ⟨N, rfl, _, _, hb⟩
    exact ⟨.inr ⟨(fun v e => by cases e), ⟨N, by unfold atoiR; rw [h]; rfl⟩⟩, hb⟩
theorem itoa_calls (n : Int) (h0 : -9223372036854775808 ≤ n) (h1 : n ≤ 9223372036854775807) (w : World) (T : Tabs w) :
    Calls Tryz.prog 139 #[.int .i64 n] w fun e w' => e = .returned (.string ⟨(Lib.itoa n).toArray⟩) ∧ Go.RowKit.Below w.heap.size w w' :=
  (Any.strconv_Itoa Tryz.itoaL n h0 h1 w T.pow).mono fun e w' ⟨he, k, os, hw⟩ => ⟨he, by rw [hw]; exact Lib.below_grow _ _ (Nat.le_refl _) _ _⟩
/-- A combining class; none: it is none. -/
def classS (l : List UInt8) : Option Int := match Lib.atoiAll l with
  | .ok v => if 0 ≤ v ∧ v ≤ 254 ∧ Lib.itoa v = l then some v else none
  | _ => none
/-- What the class's function returns: the number, and whether it is a class. -/
def classR (l : List UInt8) : Int × Bool := (atoiR l, (classS l).isSome)
set_option maxRecDepth 100000 in
set_option maxHeartbeats 4000000 in
theorem class_calls (s : ByteArray) (w : World) (hs : s.size ≤ 1000000) (T : Tabs w) :
    Calls Tryz.prog 115 #[.string s] w fun e w' => e = .returned (.tuple #[.int .i64 (classR s.data.toList).1, .bool (classR s.data.toList).2]) ∧ Go.RowKit.Below w.heap.size w w' := by
  have CA := Aside0.mk (atoi_calls s w hs T)
  have hT := T
  have u207 := Tryz.underlying207
  cases h : Lib.atoiAll s.data.toList with
  | ok v =>
    have CA2 : Aside0 (Calls Tryz.prog 138 #[.string s] w fun e w' => e = .returned (.tuple #[.int .i64 v, .nilIface]) ∧ Go.RowKit.Below w.heap.size w w') := ⟨CA.out.mono fun e w' ⟨h1, h2⟩ => ⟨by
      rcases h1 with ⟨v', h3, h4⟩ | ⟨h3, _⟩
      · rw [h] at h3; injection h3 with h3; rw [h4, h3]
      · exact absurd h (h3 v), h2⟩⟩
    have hv : (0 ≤ v ∧ v ≤ 254) → (-9223372036854775808 ≤ v ∧ v ≤ 9223372036854775807) := fun _ => by omega
    have CI : Aside0 (∀ W : World, (0 ≤ v ∧ v ≤ 254) → Go.RowKit.Below w.heap.size w W → Calls Tryz.prog 139 #[.int .i64 v] W fun e w' => e = .returned (.string ⟨(Lib.itoa v).toArray⟩) ∧ Go.RowKit.Below W.heap.size W w') := ⟨fun W hv hb => itoa_calls v (by omega) (by omega) W (hT.below hb)⟩
    have hc : classS s.data.toList = if 0 ≤ v ∧ v ≤ 254 ∧ Lib.itoa v = s.data.toList then some v else none := by unfold classS; rw [h]
    have hr : atoiR s.data.toList = v := by unfold atoiR; rw [h]
    have HC := Aside0.mk hc
    have HV := Aside0.mk hr
    clear hT T CA h hc hr
    by_cases h0 : 0 ≤ v
    · have h0b : v ≥ 0 := h0
      by_cases h1 : v ≤ 254
      · have CI2 := Aside0.mk (fun W => CI.out W ⟨h0, h1⟩)
        have hb : ((⟨(Lib.itoa v).toArray⟩ : ByteArray).toList == s.toList) = decide (Lib.itoa v = s.data.toList) := by
          rw [toList_mk, ByteArray.toList_eq]
          by_cases e : Lib.itoa v = s.data.toList
          · rw [decide_eq_true e, beq_iff_eq]; exact e
          · rw [decide_eq_false e, beq_eq_false_iff_ne]; exact e
        obtain ⟨x, hx⟩ : ∃ x : ByteArray, x = ⟨(Lib.itoa v).toArray⟩ := ⟨_, rfl⟩
        rw [← hx] at CI2 hb
        cases hd : decide (Lib.itoa v = s.data.toList) with
        | true =>
          rw [hd] at hb
          have hcs : classS s.data.toList = some v := by rw [HC.out, if_pos ⟨h0, h1, of_decide_eq_true hd⟩]
          have HCS := Aside0.mk hcs
          clear hx CI hd hcs
          go_enter Tryz.func115, Tryz.ntmps115
          go_wp2_with (first
            | (go_at_call 138; with_reducible refine CA2.out.mono ?_; rintro e w2 ⟨rfl, hq⟩; have HB := Aside0.mk hq; clear hq CA2)
            | (go_at_call 139; with_reducible refine (CI2.out _ HB.out).mono ?_; rintro e w3 ⟨rfl, hq⟩; have HB3 := Aside0.mk (below_step HB.out hq); clear hq))
          go_ret2
          unfold classR
          rw [HCS.out, HV.out]
          exact ⟨rfl, HB3.out⟩
        | false =>
          rw [hd] at hb
          have hcs : classS s.data.toList = none := by rw [HC.out, if_neg (fun e => of_decide_eq_false hd e.2.2)]
          have HCS := Aside0.mk hcs
          clear hx CI hd hcs
          go_enter Tryz.func115, Tryz.ntmps115
          go_wp2_with (first
            | (go_at_call 138; with_reducible refine CA2.out.mono ?_; rintro e w2 ⟨rfl, hq⟩; have HB := Aside0.mk hq; clear hq CA2)
            | (go_at_call 139; with_reducible refine (CI2.out _ HB.out).mono ?_; rintro e w3 ⟨rfl, hq⟩; have HB3 := Aside0.mk (below_step HB.out hq); clear hq))
          go_ret2
          unfold classR
          rw [HCS.out, HV.out]
          exact ⟨rfl, HB3.out⟩
      · have hcs : classS s.data.toList = none := by rw [HC.out, if_neg (fun e => h1 e.2.1)]
        have HCS := Aside0.mk hcs
        clear CI hcs
        go_enter Tryz.func115, Tryz.ntmps115
        go_wp2_with (go_at_call 138; with_reducible refine CA2.out.mono ?_; rintro e w2 ⟨rfl, hq⟩; have HB := Aside0.mk hq; clear hq CA2)
        go_ret2
        unfold classR
        rw [HCS.out, HV.out]
        exact ⟨rfl, HB.out⟩
    · have h0b : ¬ v ≥ 0 := h0
      have hcs : classS s.data.toList = none := by rw [HC.out, if_neg (fun e => h0 e.1)]
      have HCS := Aside0.mk hcs
      clear CI hcs
      go_enter Tryz.func115, Tryz.ntmps115
      go_wp2_with (go_at_call 138; with_reducible refine CA2.out.mono ?_; rintro e w2 ⟨rfl, hq⟩; have HB := Aside0.mk hq; clear hq CA2)
      go_ret2
      unfold classR
      rw [HCS.out, HV.out]
      exact ⟨rfl, HB.out⟩
  | _ =>
    obtain ⟨v0, hv0⟩ : ∃ v0, v0 = atoiR s.data.toList := ⟨_, rfl⟩
    have HV := Aside0.mk hv0.symm
    rw [← hv0] at CA
    have CA2 : Aside0 (Calls Tryz.prog 138 #[.string s] w fun e w' => (∃ N, e = .returned (.tuple #[.int .i64 v0, .iface 233 (.pointer (some ⟨N, 0, none⟩))])) ∧ Go.RowKit.Below w.heap.size w w') := ⟨CA.out.mono fun e w' ⟨h1, h2⟩ => ⟨by
      rcases h1 with ⟨v', h3, h4⟩ | ⟨h3, h4⟩
      · rw [h] at h3; cases h3
      · exact h4, h2⟩⟩
    have hcs : classS s.data.toList = none := by unfold classS; rw [h]
    have HCS := Aside0.mk hcs
    clear hT T CA h hcs hv0
    go_enter Tryz.func115, Tryz.ntmps115
    go_wp2_with (go_at_call 138; with_reducible refine CA2.out.mono ?_; rintro e w2 ⟨⟨N, rfl⟩, hq⟩; have HB := Aside0.mk hq; clear hq CA2)
    go_ret2
    unfold classR
    rw [HCS.out, HV.out]
    exact ⟨rfl, HB.out⟩
end Go.Proofs.YtebgebgkieglhaaGreatDoor.FieldW
end
section
/- The functions under a line's parser, in the print's own contract form: what was walked by hand. -/
namespace Go.Proofs.YtebgebgkieglhaaGreatDoor.PlugU
open Go.RowKit Go.Shelf Go.Lib Go.Proofs Go.Proofs.YtebgebgkieglhaaGreatDoorW.PrintWords Go.Proofs.YtebgebgkieglhaaGreatDoorW.PrintLast Go.Proofs.YtebgebgkieglhaaGreatDoorW.PrintMore Go.Proofs.YtebgebgkieglhaaGreatDoor.FieldW
set_option linter.unusedVariables false
set_option linter.unusedSimpArgs false

def strings_HasPrefix.f (a b : ByteArray) : Option Bool := some (Lib.hasPrefix a.data.toList b.data.toList)
theorem strings_HasPrefix.calls (a b : ByteArray) (r : Bool) (w : World) (h : strings_HasPrefix.f a b = some r) : Calls Tryz.prog 119 #[.string a, .string b] w fun e w' => e = .returned (.bool r) ∧ Go.RowKit.Below w.heap.size w w' := by
  refine (Any.strings_HasPrefix Tryz.hasPrefixL a b w).mono ?_
  rintro e w' ⟨rfl, rfl⟩
  exact ⟨by injection h with h; rw [h], Go.RowKit.Below.refl _ _⟩
def strings_HasSuffix.f (a b : ByteArray) : Option Bool := if a.size ≤ 1000000 then some (Lib.hasSuffix a.data.toList b.data.toList) else none
theorem strings_HasSuffix.calls (a b : ByteArray) (r : Bool) (w : World) (h : strings_HasSuffix.f a b = some r) : Calls Tryz.prog 120 #[.string a, .string b] w fun e w' => e = .returned (.bool r) ∧ Go.RowKit.Below w.heap.size w w' := by
  unfold strings_HasSuffix.f at h
  split at h
  · refine (Any.strings_HasSuffix Tryz.hasSuffixL a b w (by omega)).mono ?_
    rintro e w' ⟨rfl, rfl⟩
    exact ⟨by injection h with h; rw [h], Go.RowKit.Below.refl _ _⟩
  · cases h
def field_Point.f (a : ByteArray) : Option (Int × Int) := some (match pointS a.data.toList with | none => (0, 13) | some c => ((c : Int), 0))
theorem field_Point.calls (a : ByteArray) (r1 r2 : Int) (w : World) (h : field_Point.f a = some (r1, r2)) (T : Tabs w) : Calls Tryz.prog 104 #[.string a] w fun e w' => e = .returned (.tuple #[.int .i64 r1, .int .i64 r2]) ∧ Go.RowKit.Below w.heap.size w w' := by
  injection h with h
  exact point_calls a w T.bits (r1, r2) h.symm
def field_Sequence.f (a : ByteArray) : Option (List Int × Int) := if a.size ≤ 1000000 then some (seqS a.data.toList) else none
theorem field_Sequence.calls (a : ByteArray) (r1 : List Int) (r2 : Int) (w : World) (h : field_Sequence.f a = some (r1, r2)) (T : Tabs w) : Calls Tryz.prog 105 #[.string a] w fun e w' => ∃ v, e = .returned (.tuple #[v, .int .i64 r2]) ∧ Kd.R (Kd.int .i64) 3 w' w.heap.size (fun _ => True) v r1 ∧ Go.RowKit.Below w.heap.size w w' := by
  unfold field_Sequence.f at h
  split at h
  · rename_i hs
    injection h with h
    have := sequence_calls a w hs T.bits
    rw [h] at this
    exact this
  · cases h
def strings_Cut.f (a b : ByteArray) : Option (ByteArray × ByteArray × Bool) := if a.size ≤ 1000000 then some (⟨(Lib.cut a.data.toList b.data.toList).1.toArray⟩, ⟨(Lib.cut a.data.toList b.data.toList).2.1.toArray⟩, (Lib.cut a.data.toList b.data.toList).2.2) else none
theorem strings_Cut.calls (a b : ByteArray) (r1 r2 : ByteArray) (r3 : Bool) (w : World) (h : strings_Cut.f a b = some (r1, r2, r3)) (T : Tabs w) : Calls Tryz.prog 112 #[.string a, .string b] w fun e w' => e = .returned (.tuple #[.string r1, .string r2, .bool r3]) ∧ Go.RowKit.Below w.heap.size w w' := by
  unfold strings_Cut.f at h
  split at h
  · rename_i hs
    injection h with h
    injection h with h1 h
    injection h with h2 h3
    obtain ⟨m, hm⟩ := T.most
    refine (Any.strings_Cut Tryz.cutL a b m w (by omega) hm).mono ?_
    rintro e w' ⟨rfl, n, rfl⟩
    exact ⟨by rw [h1, h2, h3], pw_below_drewN (Go.RowKit.Below.refl _ _) _⟩
  · cases h
def unicode_letters.f (a : ByteArray) (lo hi : Int) : Option Bool := if 0 ≤ lo ∧ lo ≤ 127 ∧ 0 ≤ hi ∧ hi ≤ 127 then some (letS a.data.toList lo.toNat hi.toNat) else none
theorem unicode_letters.calls (a : ByteArray) (lo hi : Int) (r : Bool) (w : World) (h : unicode_letters.f a lo hi = some r) : Calls Tryz.prog 117 #[.string a, .int .i32 lo, .int .i32 hi] w fun e w' => e = .returned (.bool r) ∧ Go.RowKit.Below w.heap.size w w' := by
  unfold unicode_letters.f at h
  split at h
  · rename_i hs
    injection h with h
    have := letters_calls a lo.toNat hi.toNat (by omega) (by omega) w
    rw [Int.toNat_of_nonneg hs.1, Int.toNat_of_nonneg hs.2.2.1, h] at this
    exact this
  · cases h
def unicode_category.f (a : ByteArray) : Option Bool := some (catS a.data.toList)
theorem unicode_category.calls (a : ByteArray) (r : Bool) (w : World) (h : unicode_category.f a = some r) : Calls Tryz.prog 116 #[.string a] w fun e w' => e = .returned (.bool r) ∧ Go.RowKit.Below w.heap.size w w' := by
  injection h with h
  have := category_calls a w
  rw [h] at this
  exact this
def unicode_class.f (a : ByteArray) : Option (Int × Bool) := if a.size ≤ 1000000 then some (classR a.data.toList) else none
theorem unicode_class.calls (a : ByteArray) (r1 : Int) (r2 : Bool) (w : World) (h : unicode_class.f a = some (r1, r2)) (T : Tabs w) : Calls Tryz.prog 115 #[.string a] w fun e w' => e = .returned (.tuple #[.int .i64 r1, .bool r2]) ∧ Go.RowKit.Below w.heap.size w w' := by
  unfold unicode_class.f at h
  split at h
  · rename_i hs
    injection h with h
    have := class_calls a w hs T
    rw [h] at this
    exact this
  · cases h
end Go.Proofs.YtebgebgkieglhaaGreatDoor.PlugU
end
section
-- printed by the kit's print.py over several roots (printroots.sh): no hand has typed this
namespace Go.Proofs.YtebgebgkieglhaaGreatDoor.PU
open Go.RowKit Go.Proofs.YtebgebgkieglhaaGreatDoorW.PrintWords Go.Proofs.YtebgebgkieglhaaGreatDoorW.PrintLast Go.Proofs.YtebgebgkieglhaaGreatDoorW.PrintMore Go.Proofs.YtebgebgkieglhaaGreatDoor.PlugU
attribute [local go_sem] max2_int min2_int max_two min_two max_three min_three max_four min_four   -- for this text's walks alone
set_option linter.unusedVariables false
set_option linter.unusedSimpArgs false



def errW : Option Int → Value
  | none => .nilIface
  | some c => .iface 0 (.int .i64 c)
theorem errW_none : errW none = .nilIface := rfl
theorem errW_some (c : Int) : errW (some c) = .iface 0 (.int .i64 c) := rfl

-- the values' own types

end Go.Proofs.YtebgebgkieglhaaGreatDoor.PU
end
