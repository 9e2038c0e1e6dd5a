/- DatE, DatC, MapW, DatF, DatG, RowR, DatH, DatI, DatJ, DatK, RegQ. -/
import Derived.Test.YtebgebgkieglhaaGreatDoorDM9
import Derived.BigRegion
import Derived.Lib.QuietBelow
import Derived.BigQuiet
section
/- data: which rows have a decomposition; going round, in plain words. -/
namespace Go.Proofs.YtebgebgkieglhaaGreatDoor.FieldW
open Go.RowKit Go.Shelf Go.Lib Go.Proofs Go.Proofs.YtebgebgkieglhaaGreatDoorW.PrintWords Go.Proofs.YtebgebgkieglhaaGreatDoorW.PrintLast Go.Proofs.YtebgebgkieglhaaGreatDoorW.PrintMore Go.Proofs.YtebgebgkieglhaaGreatDoor.PRef
set_option linter.unusedVariables false
set_option linter.unusedSimpArgs false


/-- What has a decomposition is one code point alone. -/
def oneR (r : URow) : Prop := r.dec ≠ [] → r.first = r.last
theorem rowS_empty (l : List ByteArray) (hsz : ∀ x ∈ l, x.size ≤ 1000000) (h0 : (rowS l).2 = 0) (h5 : (l.getD 5 ByteArray.empty).data.toList = []) : (rowS l).1.dec = [] := by
  have h := rowS_eq l hsz
  have hd : Go.Proofs.YtebgebgkieglhaaGreatDoor.PU.unicode_decomp.f (rdOf ByteArray.empty l 5) = some ([], 0) := by
    have e : rdOf ByteArray.empty l 5 = l.getD 5 ByteArray.empty := rfl
    unfold Go.Proofs.YtebgebgkieglhaaGreatDoor.PU.unicode_decomp.f Go.Proofs.YtebgebgkieglhaaGreatDoor.PlugU.strings_HasPrefix.f Go.Proofs.YtebgebgkieglhaaGreatDoor.PlugU.field_Sequence.f
    rw [e] at *
    rw [h5, if_pos (e ▸ rdOf_size l 5 hsz)]
    rfl
  obtain ⟨t, ht⟩ : ∃ t, t = ((rowS l).1.first, (rowS l).1.last, (rowS l).1.gc, (rowS l).1.ccc, (rowS l).1.bidi, (rowS l).1.dec, (rowS l).2) := ⟨_, rfl⟩
  rw [← ht] at h
  have ht0 : t.2.2.2.2.2.2 = 0 := by rw [ht]; exact h0
  have hj : ∀ c k b, Go.Proofs.YtebgebgkieglhaaGreatDoor.PU.unicode_row.j0 1 l c k b = some t → t.2.2.2.2.2.1 = [] := by
    intro c k b h
    rw [Go.Proofs.YtebgebgkieglhaaGreatDoor.PU.unicode_row.j0, hd] at h
    split at h
    · injection h with h; subst h; exact absurd ht0 (by decide)
    · split at h
      · rw [Option.bind_some] at h
        rw [if_pos rfl] at h
        split at h
        · split at h
          · injection h with h; subst h; rfl
          · cases h
        · cases h
      · cases h
  have key : t.2.2.2.2.2.1 = [] := by
    unfold Go.Proofs.YtebgebgkieglhaaGreatDoor.PU.unicode_row.f at h
    have nz : ∀ (e : Int), some (0, 0, (⟨#[]⟩ : ByteArray), 0, (⟨#[]⟩ : ByteArray), ([] : List Int), e) = some t → t.2.2.2.2.2.1 = [] := fun e h => by
      injection h with h; subst h; rfl
    split at h
    · split at h
      · cases hp : Go.Proofs.YtebgebgkieglhaaGreatDoor.PlugU.field_Point.f (rdOf ByteArray.empty l 0) with
        | none => rw [hp] at h; cases h
        | some p =>
          rw [hp, Option.bind_some] at h
          split at h
          · split at h
            · cases hq : Go.Proofs.YtebgebgkieglhaaGreatDoor.PlugU.unicode_class.f (rdOf ByteArray.empty l 3) with
              | none => rw [hq] at h; cases h
              | some q =>
                rw [hq, Option.bind_some] at h
                split at h
                · cases hg : Go.Proofs.YtebgebgkieglhaaGreatDoor.PlugU.unicode_category.f (rdOf ByteArray.empty l 2) with
                  | none => rw [hg] at h; cases h
                  | some g =>
                    rw [hg, Option.bind_some] at h
                    split at h
                    · split at h
                      · split at h
                        · split at h
                          · exact hj _ _ _ h
                          · split at h
                            · exact hj _ _ _ h
                            · cases hk : Go.Proofs.YtebgebgkieglhaaGreatDoor.PlugU.unicode_letters.f (rdOf ByteArray.empty l 4) 65 90 with
                              | none => rw [hk] at h; cases h
                              | some k => rw [hk, Option.bind_some] at h; exact hj _ _ _ h
                        · cases h
                      · exact hj _ _ _ h
                    · exact hj _ _ _ h
                · cases h
            · cases h
          · exact nz _ h
      · cases h
    · exact nz _ h
  rw [ht] at key
  exact key
/-- While the file is read: what has a decomposition is one alone; an open plain row has none. -/
def oneS (s : PSt) : Prop := (∀ r ∈ s.rs, oneR r) ∧ (s.op = true → s.pl = true → ∀ own, s.rs.getLast? = some own → own.dec = [])
theorem takeS_one {s : PSt} {N : Int} {l : List ByteArray} {r : URow} {e : Int} (hs : oneS s) (hr : e = 0 → oneR r ∧ ((l.getD 5 ByteArray.empty).data.toList = [] → r.dec = [])) : oneS (takeS s N l r e).2.2 := by
  unfold takeS
  split
  · exact hs
  · rename_i he
    have he0 : e = 0 := Classical.byContradiction he
    obtain ⟨hr1, hr2⟩ := hr he0
    have snoc : ∀ q ∈ s.rs ++ [r], oneR q := fun q hq => by
      rcases List.mem_append.1 hq with hq | hq
      · exact hs.1 q hq
      · rw [List.mem_singleton] at hq; subst hq; exact hr1
    split
    · rename_i hop
      split
      · exact hs
      · rename_i own hown
        split
        · rename_i hc
          have hpl : s.pl = true := by
            unfold closeS at hc
            simp only [Bool.and_eq_true] at hc
            exact hc.1.1.1.1.1.2
          have hd := hs.2 hop hpl own hown
          refine ⟨fun q hq => ?_, fun h => by cases h⟩
          rcases List.mem_append.1 hq with hq | hq
          · exact hs.1 q (List.dropLast_subset _ hq)
          · rw [List.mem_singleton] at hq; subst hq; exact fun h => absurd hd h
        · exact hs
    · rename_i hop
      have fin : oneS (if namedS (l.getD 1 ByteArray.empty) ⟨#[44, 32, 70, 105, 114, 115, 116, 62]⟩ then ((0 : Int), (0 : Int), (⟨s.rs ++ [r], true, N, (l.getD 5 ByteArray.empty).data.toList == []⟩ : PSt)) else (0, 0, { s with rs := s.rs ++ [r] })).2.2 := by
        split
        · refine ⟨snoc, fun _ hp own hown => ?_⟩
          dsimp only at hp hown
          rw [List.getLast?_concat] at hown
          injection hown with hown
          subst hown
          exact hr2 (beq_iff_eq.1 hp)
        · refine ⟨snoc, fun h => ?_⟩
          exact absurd h hop
      cases hg : s.rs.getLast? with
      | none =>
        dsimp only
        rw [if_neg (by decide)]
        exact fin
      | some own =>
        dsimp only
        split
        · exact hs
        · exact fin
theorem foldU_one : ∀ (ls : List (Nat × List ByteArray)) (s : PSt), oneS s → (∀ x ∈ ls, ∀ y ∈ x.2, y.size ≤ 1000000) → oneS (foldU ls s).2.2
  | [], s, h, _ => h
  | (n, l) :: r, s, h, hsz => by
    have hl := hsz (n, l) (by simp)
    have h1 := takeS_one (N := n) (l := l) h (fun he => ⟨fun _ => (rowS_good l hl he).2, fun h5 => rowS_empty l hl he h5⟩)
    rw [foldU]
    split
    · exact foldU_one r _ h1 (fun x hx => hsz x (by simp [hx]))
    · exact h1
theorem parseU_one (b : List UInt8) (hb : b.length ≤ 100000) {rs : List URow} (h : (parseU b).1 = some rs) : ∀ r ∈ rs, oneR r := by
  have h1 := foldU_one (linesOf 0 (pieceB 10 ⟨b.toArray⟩)) s0 ⟨fun s h => (by cases h), fun h => (by cases h)⟩ (lines_size b hb)
  unfold parseU at h
  dsimp only at h
  split at h
  · cases h
  · split at h
    · cases h
    · injection h with h
      subst h
      exact h1.1
/-- The row of a code point is one of the rows, which has it; or the zero one. -/
theorem rowAt_or (rs : List URow) (c : Int) : (rowAt rs c = zeroRow ∧ there (cfR c) rs = false) ∨ (rowAt rs c ∈ rs ∧ (rowAt rs c).first ≤ c ∧ c ≤ (rowAt rs c).last) := by
  unfold rowAt
  cases hth : there (cfR c) rs with
  | false => exact .inl ⟨rfl, rfl⟩
  | true =>
    right
    rw [if_pos rfl]
    unfold there at hth
    cases hq : rs[ahead (cfR c) rs]? with
    | none => rw [hq] at hth; cases hth
    | some x =>
      rw [hq] at hth
      have hx : rs.getD (ahead (cfR c) rs) zeroRow = x := by rw [List.getD_eq_getElem?_getD, hq]; rfl
      rw [hx]
      refine ⟨List.mem_of_getElem? hq, ?_⟩
      have h0 : cfR c x = 0 := by simpa using hth
      unfold cfR at h0
      split at h0
      · exact absurd h0 (by decide)
      · split at h0
        · exact absurd h0 (by decide)
        · omega
def decR (rs : List URow) (c : Int) : List Int := (rowAt rs c).dec
theorem decR_some {rs : List URow} (h1 : ∀ r ∈ rs, oneR r) {c : Int} (h : decR rs c ≠ []) : ∃ r ∈ rs, r = rowAt rs c ∧ r.first = c ∧ r.dec ≠ [] := by
  rcases rowAt_or rs c with ⟨h2, _⟩ | ⟨h2, h3, h4⟩
  · unfold decR at h; rw [h2] at h; exact absurd rfl h
  · have h5 := h1 _ h2 h
    exact ⟨_, h2, rfl, by omega, h⟩
/-- One after another: what stands ahead hangs only on what stands behind. -/
def Topo (dec : Int → List Int) : List Int → Prop
  | [] => True
  | c :: l => (∀ x ∈ dec c, x ∈ l) ∧ Topo dec l
def StepTo (dec : Int → List Int) (a b : Int) : Prop := b ∈ dec a
def Goes (dec : Int → List Int) : Int → Int → Prop := Relation.TransGen (StepTo dec)
/-- Decompositions go round. -/
def Cyc (dec : Int → List Int) : Prop := ∃ c, Goes dec c c
theorem Goes.one {dec : Int → List Int} {a b : Int} (h : b ∈ dec a) : Goes dec a b := .single h
theorem Goes.ahead {dec : Int → List Int} {a b c : Int} (h : b ∈ dec a) (h2 : Goes dec b c) : Goes dec a c := (Relation.TransGen.single h).trans h2
theorem Goes.first {dec : Int → List Int} {a b : Int} (h : Goes dec a b) : ∃ x, x ∈ dec a ∧ (x = b ∨ Goes dec x b) := by
  induction h with
  | single h => exact ⟨_, h, .inl rfl⟩
  | tail h1 h2 ih =>
    obtain ⟨x, hx, h⟩ := ih
    refine ⟨x, hx, .inr ?_⟩
    rcases h with rfl | h
    · exact .single h2
    · exact Relation.TransGen.tail h h2
theorem Topo.down {dec : Int → List Int} : ∀ {l : List Int}, Topo dec l → ∀ a ∈ l, ∀ x ∈ dec a, x ∈ l
  | [], _, a, h, _, _ => by cases h
  | c :: l, hT, a, h, x, hx => by
    rcases List.mem_cons.1 h with rfl | h
    · exact List.mem_cons_of_mem _ (hT.1 x hx)
    · exact List.mem_cons_of_mem _ (Topo.down hT.2 a h x hx)
theorem Topo.goes {dec : Int → List Int} {l : List Int} (hT : Topo dec l) {a b : Int} (ha : a ∈ l) (h : Goes dec a b) : b ∈ l := by
  induction h with
  | single h => exact hT.down _ ha _ h
  | tail h1 h2 ih => exact hT.down _ ih _ h2
theorem Topo.noCyc {dec : Int → List Int} : ∀ {l : List Int}, Topo dec l → ∀ a ∈ l, ¬ Goes dec a a
  | [], _, a, h => by cases h
  | c :: l, hT, a, h => by
    by_cases hl : a ∈ l
    · exact Topo.noCyc hT.2 a hl
    · have hac : a = c := by
        rcases List.mem_cons.1 h with h | h
        · exact h
        · exact absurd h hl
      subst hac
      intro hg
      obtain ⟨x, hx, h2⟩ := hg.first
      have hxl := hT.1 x hx
      rcases h2 with rfl | h2
      · exact hl hxl
      · exact hl (Topo.goes hT.2 hxl h2)
/-- The open ones, the last one first: each is in the decomposition of the next. -/
def OnWay (dec : Int → List Int) : List Int → Prop
  | [] => True
  | [_] => True
  | c :: o :: t => c ∈ dec o ∧ OnWay dec (o :: t)
theorem OnWay.goes {dec : Int → List Int} : ∀ {t : List Int} {c : Int}, OnWay dec (c :: t) → ∀ o ∈ t, Goes dec o c
  | [], c, _, o, h => by cases h
  | p :: t, c, hC, o, h => by
    rcases List.mem_cons.1 h with rfl | h
    · exact .one hC.1
    · exact Relation.TransGen.tail (OnWay.goes hC.2 o h) hC.1
theorem OnWay.some {dec : Int → List Int} : ∀ {t : List Int} {c : Int}, OnWay dec (c :: t) → ∀ o ∈ t, dec o ≠ []
  | [], c, _, o, h => by cases h
  | p :: t, c, hC, o, h => by
    rcases List.mem_cons.1 h with rfl | h
    · intro e; rw [OnWay, e] at hC; exact absurd hC.1 (List.not_mem_nil)
    · exact OnWay.some hC.2 o h
/-- Pigeons. -/
theorem pigeons : ∀ {l m : List Int}, l.Nodup → (∀ x ∈ l, x ∈ m) → l.length ≤ m.length
  | [], m, _, _ => Nat.zero_le _
  | c :: l, m, hn, hs => by
    have hc := hs c (by simp)
    obtain ⟨h1, h2⟩ := List.nodup_cons.1 hn
    have h3 : ∀ x ∈ l, x ∈ m.erase c := fun x hx => by
      have hne : x ≠ c := fun e => h1 (e ▸ hx)
      exact (List.mem_erase_of_ne hne).2 (hs x (List.mem_cons_of_mem _ hx))
    have h4 := pigeons h2 h3
    rw [List.length_erase_of_mem hc] at h4
    have : 0 < m.length := List.length_pos_of_mem hc
    rw [List.length_cons]
    omega
/-- How many code points a full decomposition has, up to one too many. -/
def partsF (dec : Int → List Int) : Nat → Int → Int
  | 0, _ => 1
  | k + 1, c => if (dec c).isEmpty then 1 else (dec c).foldl (fun n x => if n ≤ 4 then n + partsF dec k x else n) 0
theorem partsF_pos (dec : Int → List Int) : ∀ k c, 1 ≤ partsF dec k c
  | 0, _ => Int.le_refl 1
  | k + 1, c => by
    rw [partsF]
    split
    · exact Int.le_refl 1
    · rename_i h
      have key : ∀ (l : List Int) (n : Int), (0 ≤ n ∧ (l ≠ [] ∨ 1 ≤ n)) → 1 ≤ l.foldl (fun n x => if n ≤ 4 then n + partsF dec k x else n) n := by
        intro l
        induction l with
        | nil =>
          intro n hn
          rcases hn.2 with h | h
          · exact absurd rfl h
          · exact h
        | cons x t ih =>
          intro n hn
          refine ih _ ?_
          have := partsF_pos dec k x
          dsimp only
          split
          · exact ⟨by omega, .inr (by omega)⟩
          · exact ⟨by omega, .inr (by omega)⟩
      refine key _ 0 ⟨Int.le_refl 0, .inl ?_⟩
      intro e
      rw [e] at h
      exact h rfl
theorem partsF_le (dec : Int → List Int) (hd : ∀ c, (dec c).length ≤ 2) : ∀ k c, partsF dec k c ≤ 4 * k + 1
  | 0, _ => by rw [partsF]; omega
  | k + 1, c => by
    rw [partsF]
    have h2 := hd c
    split
    · omega
    · rcases hl : dec c with _ | ⟨a, _ | ⟨b, _ | ⟨e, r⟩⟩⟩
      · simp
        omega
      · have ha := partsF_le dec hd k a
        simp
        omega
      · have ha := partsF_le dec hd k a
        have hb := partsF_le dec hd k b
        simp
        split <;> omega
      · rw [hl] at h2
        simp at h2
theorem partsF_leaf (dec : Int → List Int) {c : Int} (h : dec c = []) (k : Nat) : partsF dec k c = 1 := by
  cases k with
  | zero => rfl
  | succ k => rw [partsF, h]; rfl
theorem fold_parts {dec : Int → List Int} {k m : Nat} : ∀ (l : List Int) (n : Int), (∀ x ∈ l, partsF dec k x = partsF dec m x) → l.foldl (fun n x => if n ≤ 4 then n + partsF dec k x else n) n = l.foldl (fun n x => if n ≤ 4 then n + partsF dec m x else n) n
  | [], _, _ => rfl
  | x :: t, n, h => by
    rw [List.foldl_cons, List.foldl_cons, h x (by simp)]
    exact fold_parts t _ (fun y hy => h y (by simp [hy]))
/-- As Topo, but the ones without a decomposition needn't be there. -/
def TopoN (dec : Int → List Int) : List Int → Prop
  | [] => True
  | c :: l => (∀ x ∈ dec c, dec x = [] ∨ x ∈ l) ∧ TopoN dec l
theorem Topo.thin {dec : Int → List Int} : ∀ {l : List Int}, Topo dec l → TopoN dec (l.filter (fun c => !(dec c).isEmpty))
  | [], _ => trivial
  | c :: l, h => by
    have ih := Topo.thin h.2
    rw [List.filter_cons]
    split
    · refine ⟨fun x hx => ?_, ih⟩
      by_cases he : dec x = []
      · exact .inl he
      · right
        rw [List.mem_filter]
        refine ⟨h.1 x hx, ?_⟩
        simpa using he
    · exact ih
theorem TopoN.same {dec : Int → List Int} : ∀ {l : List Int}, TopoN dec l → ∀ c, (dec c = [] ∨ c ∈ l) → ∀ k m, l.length ≤ k → l.length ≤ m → partsF dec k c = partsF dec m c
  | [], _, c, hc, k, m, _, _ => by
    rcases hc with h | h
    · rw [partsF_leaf dec h, partsF_leaf dec h]
    · cases h
  | a :: l, hT, c, hc, k, m, hk, hm => by
    rcases hc with h | h
    · rw [partsF_leaf dec h, partsF_leaf dec h]
    · rw [List.length_cons] at hk hm
      by_cases hl : c ∈ l
      · exact TopoN.same hT.2 c (.inr hl) k m (by omega) (by omega)
      · have hac : c = a := by
          rcases List.mem_cons.1 h with h | h
          · exact h
          · exact absurd h hl
        subst hac
        obtain ⟨k, rfl⟩ : ∃ j, k = j + 1 := ⟨k - 1, by omega⟩
        obtain ⟨m, rfl⟩ : ∃ j, m = j + 1 := ⟨m - 1, by omega⟩
        rw [partsF, partsF]
        split
        · rfl
        · exact fold_parts _ _ (fun x hx => TopoN.same hT.2 x (hT.1 x hx) k m (by omega) (by omega))
end Go.Proofs.YtebgebgkieglhaaGreatDoor.FieldW
end
section
/- data: files. -/
namespace Go.Proofs.YtebgebgkieglhaaGreatDoor.FieldW
open Go.RowKit Go.Shelf Go.Lib Go.Proofs Go.Proofs.YtebgebgkieglhaaGreatDoorW.PrintWords Go.Proofs.YtebgebgkieglhaaGreatDoorW.PrintLast Go.Proofs.YtebgebgkieglhaaGreatDoorW.PrintMore Go.Proofs.YtebgebgkieglhaaGreatDoor.PRef
set_option linter.unusedVariables false
set_option linter.unusedSimpArgs false

def exB : ByteArray := ⟨#[70, 117, 108, 108, 95, 67, 111, 109, 112, 111, 115, 105, 116, 105, 111, 110, 95, 69, 120, 99, 108, 117, 115, 105, 111, 110]⟩
def igB : ByteArray := ⟨#[68, 101, 102, 97, 117, 108, 116, 95, 73, 103, 110, 111, 114, 97, 98, 108, 101, 95, 67, 111, 100, 101, 95, 80, 111, 105, 110, 116]⟩
def stL : List ByteArray := [⟨#[80, 86, 65, 76, 73, 68]⟩, ⟨#[67, 79, 78, 84, 69, 88, 84, 74]⟩, ⟨#[67, 79, 78, 84, 69, 88, 84, 79]⟩, ⟨#[68, 73, 83, 65, 76, 76, 79, 87, 69, 68]⟩, ⟨#[85, 78, 65, 83, 83, 73, 71, 78, 69, 68]⟩]
/-- The seven files. -/
structure Bun where
  uni : List UInt8
  exc : List UInt8
  ign : List UInt8
  idn : List UInt8
  scr : List UInt8
  joi : List UInt8
  con : List UInt8
def Bun.mid (b : Bun) : List (List UInt8) := [b.exc, b.ign, b.idn, b.scr, b.joi]
def valsOf : List (List ByteArray) := [[exB], [igB], stL, [], []]
/-- A file's octets lie there. -/
def FileA (w : World) (v : Value) (b : List UInt8) : Prop := ∃ A c, v = .slice A b.length c ∧ Kd.C (Kd.int .u8) w A b.length (numB b) ∧ b.length ≤ 100000
theorem FileA.below {w w' : World} {v : Value} {b : List UInt8} (h : FileA w v b) (hb : Go.RowKit.Below w.heap.size w w') : FileA w' v b := by
  obtain ⟨A, c, h1, h2, h3⟩ := h
  exact ⟨A, c, h1, Kd.C_below h2 hb, h3⟩
theorem STab.far {w : World} {base g : Nat} {l : List USpan} (h : STab w base g l) {p : Addr} (hp : p.block < base) (u : Value) : STab (w.setCell p u) base g l := by
  obtain ⟨v, h1, h2, h3⟩ := h
  exact ⟨v, (Go.RowKit.Below.heap_setCell w p u g (by omega)).trans h1, h2, Kd.R_mono (Kd.R_far (Kd.R_bound h3) (fun k hk => by have := hk.2.1; omega) u) (fun k hk => hk.1)⟩
theorem UTab.far {w : World} {base g : Nat} {l : List URow} (h : UTab w base g l) {p : Addr} (hp : p.block < base) (u : Value) : UTab (w.setCell p u) base g l := by
  obtain ⟨v, h1, h2, h3⟩ := h
  exact ⟨v, (Go.RowKit.Below.heap_setCell w p u g (by omega)).trans h1, h2, Kd.R_mono (Kd.R_far (Kd.R_bound h3) (fun k hk => by have := hk.2.1; omega) u) (fun k hk => hk.1)⟩
theorem CTab.far {w : World} {base g : Nat} {l : List (Int × List Int)} (h : CTab w base g l) {p : Addr} (hp : p.block < base) (u : Value) : CTab (w.setCell p u) base g l := by
  obtain ⟨Bm, F, h1, h2, h3, h4, h5, h6⟩ := h
  exact ⟨Bm, F, (Go.RowKit.Below.heap_setCell w p u g (by omega)).trans h1, h2, h3, h4, h5.block (Go.RowKit.Below.heap_setCell w p u Bm (by omega)), h6.turn (fun v q hv => Kd.R_mono (Kd.R_far (Kd.R_bound hv) (fun k hk => by have := hk.2.1; omega) u) (fun k hk => hk.1))⟩
theorem STab.lower {w : World} {base base' g : Nat} {l : List USpan} (h : STab w base g l) (hb : base' ≤ base) : STab w base' g l := by
  obtain ⟨v, h1, h2, h3⟩ := h
  exact ⟨v, h1, by omega, Kd.R_lower h3 hb⟩
theorem UTab.lower {w : World} {base base' g : Nat} {l : List URow} (h : UTab w base g l) (hb : base' ≤ base) : UTab w base' g l := by
  obtain ⟨v, h1, h2, h3⟩ := h
  exact ⟨v, h1, by omega, Kd.R_lower h3 hb⟩
theorem CTab.lower {w : World} {base base' g : Nat} {l : List (Int × List Int)} (h : CTab w base g l) (hb : base' ≤ base) : CTab w base' g l := by
  obtain ⟨Bm, F, h1, h2, h3, h4, h5, h6⟩ := h
  exact ⟨Bm, F, h1, by omega, by omega, h4, h5, h6.turn (fun v q hv => Kd.R_lower hv hb)⟩
/-- Texts that a literal has laid. -/
theorem R_strs {w : World} {g base : Nat} {ok : Nat → Prop} {l : List ByteArray} (h : w.heap[g]? = some (.cells (l.map Value.string).toArray 9 (0, 0))) (hb : base ≤ g) (hok : ok g) (hl : l.length ≤ 1000) : Kd.R Kd.string 9 w base ok (.slice (some ⟨g, 0, none⟩) l.length l.length) l := by
  refine ⟨fun k hk => by injection hk with hk; subst hk; exact hok, l.map Value.string, ⟨by simp [Kd.string, Kd.scalar], .inr ⟨g, l.length, (l.map Value.string).toArray, rfl, hb, h, Nat.le_refl _, by unfold maxLen; omega, by simp [Kd.string, Kd.scalar], by simp [Kd.string, Kd.scalar]; exact List.take_of_length_le (by simp)⟩⟩, by simp [Kd.string, Kd.scalar], fun j p hj => ?_⟩
  obtain ⟨hl, rfl⟩ := List.getElem?_eq_some_iff.1 hj
  show Kd.string.M _ _ _ _ _
  have : ((l.map Value.string).drop (j * 1)).take 1 = [Value.string l[j]] := by
    rw [Nat.mul_one, List.drop_eq_getElem_cons (by simpa using hl)]
    simp
  show ((l.map Value.string).drop (j * 1)).take 1 = [Value.string l[j]]
  exact this
theorem three_set {w : World} {g : Nat} {a0 a1 a2 : Value} (b0 b1 b2 : Value) (h : w.heap[g]? = some (.cells #[a0, a1, a2] 30 (0, 0))) :
    (((w.setCell ⟨g, 0, none⟩ b0).setCell ⟨g, 1, none⟩ b1).setCell ⟨g, 2, none⟩ b2).heap[g]? = some (.cells #[b0, b1, b2] 30 (0, 0)) ∧
    (∀ n, n ≤ g → ∀ w0, Go.RowKit.Below n w0 w → Go.RowKit.Below n w0 (((w.setCell ⟨g, 0, none⟩ b0).setCell ⟨g, 1, none⟩ b1).setCell ⟨g, 2, none⟩ b2)) ∧
    (∀ k, k ≠ g → (((w.setCell ⟨g, 0, none⟩ b0).setCell ⟨g, 1, none⟩ b1).setCell ⟨g, 2, none⟩ b2).heap[k]? = w.heap[k]?) := by
  have far : ∀ (W : World) (i k : Nat) (u : Value), k ≠ g → (W.setCell ⟨g, i, none⟩ u).heap[k]? = W.heap[k]? := fun W i k u h => Go.RowKit.Below.heap_setCell W ⟨g, i, none⟩ u k h
  refine ⟨blk_set (blk_set (blk_set h 0 b0) 1 b1) 2 b2, fun n hn w0 hb => ?_, fun k hk => (far _ _ _ _ hk).trans ((far _ _ _ _ hk).trans (far _ _ _ _ hk))⟩
  exact ((hb.setCell (p := ⟨g, 0, none⟩) hn _).setCell (p := ⟨g, 1, none⟩) hn _).setCell (p := ⟨g, 2, none⟩) hn _
/-- The five property files. -/
def midS : List (List ByteArray × List UInt8) → Nat → Option (List (List USpan)) × Int × Int × Int
  | [], _ => (some [], 0, 0, 0)
  | (vals, f) :: r, k => match (parseP vals f).1 with
    | none => (none, 2 + k, (parseP vals f).2.2, (parseP vals f).2.1)
    | some l => match midS r (k + 1) with
      | (some ls, x) => (some (l :: ls), x)
      | (none, x) => (none, x)
structure DatS where
  rows : List URow
  props : List (List USpan)
  con : List (Int × List Int)
/-- What the seven files are read as, or the file, the line and the error. -/
def filesS (b : Bun) : Option DatS × Int × Int × Int := match (parseU b.uni).1 with
  | none => (none, 1, (parseU b.uni).2.2, (parseU b.uni).2.1)
  | some rs => match midS (valsOf.zip b.mid) 0 with
    | (none, x) => (none, x)
    | (some ps, _) => match (parseC b.con).1 with
      | none => (none, 7, (parseC b.con).2.2, (parseC b.con).2.1)
      | some l => (some ⟨rs, ps, l⟩, 0, 0, 0)
def ptr (g : Nat) : Value := .pointer (some ⟨g, 0, none⟩)
/-- The data's block: what of it is read so far. -/
def dCells (gu : Nat) (gs : List Nat) (c m : Value) : List Value := ptr gu :: (gs.map ptr ++ List.replicate (5 - gs.length) (.pointer none) ++ [c, m])
/-- The property tables. -/
def PTabs (w : World) (base : Nat) (gs : List Nat) (ps : List (List USpan)) : Prop := gs.length = ps.length ∧ ∀ (j g : Nat) (l : List USpan), gs[j]? = some g → ps[j]? = some l → STab w base g l
/-- The data in memory. -/
def DatM (w : World) (base D : Nat) (m : Value) (d : DatS) : Prop := ∃ gu gs gc, w.heap[D]? = some (.cells (dCells gu gs (ptr gc) m).toArray 72 (0, 0)) ∧ UTab w base gu d.rows ∧ PTabs w base gs d.props ∧ gs.length = 5 ∧ CTab w base gc d.con
theorem PTabs.far {w : World} {base : Nat} {gs : List Nat} {ps : List (List USpan)} (h : PTabs w base gs ps) {p : Addr} (hp : p.block < base) (u : Value) : PTabs (w.setCell p u) base gs ps := ⟨h.1, fun j g l h1 h2 => (h.2 j g l h1 h2).far hp u⟩
theorem PTabs.below {w w' : World} {base : Nat} {gs : List Nat} {ps : List (List USpan)} (h : PTabs w base gs ps) (hb : Go.RowKit.Below w.heap.size w w') : PTabs w' base gs ps := ⟨h.1, fun j g l h1 h2 => (h.2 j g l h1 h2).below hb⟩
theorem PTabs.snoc {w : World} {base g : Nat} {gs : List Nat} {ps : List (List USpan)} {l : List USpan} (h : PTabs w base gs ps) (hg : STab w base g l) : PTabs w base (gs ++ [g]) (ps ++ [l]) := by
  refine ⟨by simp [h.1], fun j g' l' h1 h2 => ?_⟩
  rcases Nat.lt_or_ge j gs.length with hj | hj
  · rw [List.getElem?_append_left hj] at h1
    rw [List.getElem?_append_left (by have := h.1; omega)] at h2
    exact h.2 j g' l' h1 h2
  · rw [List.getElem?_append_right hj] at h1
    rw [List.getElem?_append_right (by have := h.1; omega)] at h2
    have hj0 : j - gs.length = 0 := by
      have := (List.getElem?_eq_some_iff.1 h1).1
      simp at this; omega
    rw [hj0] at h1
    rw [← h.1, hj0] at h2
    injection h1 with h1
    injection h2 with h2
    subst h1 h2
    exact hg
theorem dCells_set (gu : Nat) (gs : List Nat) (c m : Value) (g : Nat) (h : gs.length < 5) : (dCells gu gs c m).set (1 + gs.length) (ptr g) = dCells gu (gs ++ [g]) c m ∧ (dCells gu gs c m)[1 + gs.length]? = some (.pointer none) := by
  unfold dCells
  rcases gs with _ | ⟨a, _ | ⟨b, _ | ⟨d, _ | ⟨e, _ | ⟨f, r⟩⟩⟩⟩⟩
  all_goals first
    | exact ⟨rfl, rfl⟩
    | (simp at h; done)
    | (simp at h; omega)
theorem dCells_get (gu : Nat) (gs : List Nat) (c m : Value) (h : gs.length ≤ 5) : (dCells gu gs c m)[0]? = some (ptr gu) ∧ (dCells gu gs c m)[6]? = some c ∧ (dCells gu gs c m)[7]? = some m := by
  unfold dCells
  rcases gs with _ | ⟨a, _ | ⟨b, _ | ⟨d, _ | ⟨e, _ | ⟨f, _ | ⟨g, r⟩⟩⟩⟩⟩⟩
  all_goals first
    | exact ⟨rfl, rfl, rfl⟩
    | (simp at h; done)
    | (simp at h; omega)
theorem midS_snoc : ∀ (pre : List (List ByteArray × List UInt8)) (k : Nat) (ps : List (List USpan)) (r : List (List ByteArray × List UInt8)) (x : Int × Int × Int), midS pre k = (some ps, x) → midS (pre ++ r) k = match midS r (k + pre.length) with
    | (some ls, x) => (some (ps ++ ls), x)
    | (none, x) => (none, x)
  | [], k, ps, r, x, h => by
    injection h with h _
    injection h with h
    subst h
    rw [List.nil_append, List.length_nil, Nat.add_zero]
    cases midS r k with
    | mk o y => cases o <;> rfl
  | (vals, f) :: pre, k, ps, r, x, h => by
    rw [midS] at h
    rw [List.cons_append, midS]
    cases hp : (parseP vals f).1 with
    | none => rw [hp] at h; cases h
    | some l =>
      rw [hp] at h
      dsimp only at h ⊢
      cases hm : midS pre (k + 1) with
      | mk o y =>
        rw [hm] at h
        cases o with
        | none => cases h
        | some ls =>
          dsimp only at h
          injection h with h1 h2
          injection h1 with h1
          subst h1
          have := midS_snoc pre (k + 1) ls r y hm
          rw [this, show k + 1 + pre.length = k + (pre.length + 1) by omega, List.length_cons]
          cases midS r (k + (pre.length + 1)) with
          | mk o y => cases o <;> rfl
end Go.Proofs.YtebgebgkieglhaaGreatDoor.FieldW
end
section
/- Maps told key by key: how many entries there are; a set of ints. -/
namespace Go.Proofs.YtebgebgkieglhaaGreatDoor.FieldW
open Go.RowKit Go.Shelf Go.Lib Go.Proofs Go.Proofs.YtebgebgkieglhaaGreatDoorW.PrintWords Go.Proofs.YtebgebgkieglhaaGreatDoorW.PrintLast Go.Proofs.YtebgebgkieglhaaGreatDoorW.PrintMore Go.Proofs.YtebgebgkieglhaaGreatDoor.PRef
set_option linter.unusedVariables false
set_option linter.unusedSimpArgs false
open Go Go.Maps


section
variable {α : Type} {enc : α → Value} {okk : α → Prop} {P : Program} {k : TypeId} {w : World} {b n s : Nat} {F : α → Option Value}
/-- There are no more entries than there are keys. -/
theorem MapIs.tight (h : MapIs enc okk P k w b n F s) : MapIs enc okk P k w b s F s := by
  obtain ⟨D, ⟨es, c, h1, hF, hs, hD⟩, h2, h3⟩ := h
  refine ⟨D, ⟨es, c, h1, hF, ?_, hD⟩, h2, h3⟩
  rw [← h2, hD]
  show es.size ≤ List.length _
  rw [length_sorted]
  simp
/-- 'delete', and how many there are behind it. -/
theorem MapIs.dropT [DecidableEq α] {t e : TypeId} (h : MapIs enc okk P k w b n F s) (K : Keyed P k) (hinj : ∀ x y, okk x → okk y → enc x = enc y → x = y) (ht : P.underlying t = some (.map k e)) {x : α} (hx : okk x) {kx : Lit} (hkx : keyOf P k (enc x) = some kx) (ty : TypeId) :
    ∃ w' s', (Builtin.delete_ #[t, k] ty #[.map (some b), enc x]).run P w = .ok (.tuple #[]) w' ∧ MapIs enc okk P k w' b s' (updF F x none) s' ∧ s' + (if (F x).isSome then 1 else 0) = s ∧ w.grownBy w' (some b) := by
  obtain ⟨D, h1, h2, h3⟩ := h
  obtain ⟨w', hrun, r1, r2⟩ := h1.drop K ht hkx ty
  have hsz := size_del (k := kx) (h1.tidy K)
  rw [(h3 x hx kx hkx).1, h2] at hsz
  have hM : MapIs enc okk P k w' b n (updF F x none) (Maps.size (D.del kx)) := ⟨_, r1, rfl, fun y hy kl hkl => by
    unfold updF
    by_cases e : y = x
    · subst e
      have : kl = kx := by rw [hkl] at hkx; injection hkx
      subst this
      rw [if_pos rfl]
      exact ⟨has_del_same, fun z => atKey_del_same _⟩
    · have hne : kl ≠ kx := fun e2 => e (hinj y x hy hx (K.inj hkl (e2 ▸ hkx)))
      rw [if_neg e]
      obtain ⟨a1, a2⟩ := h3 y hy kl hkl
      exact ⟨(has_del_other hne).trans a1, fun z => (atKey_del_other hne _).trans (a2 z)⟩⟩
  exact ⟨w', _, hrun, hM.tight, hsz, r2.grown⟩
end
section
variable {α : Type} {enc : α → Value} {okk : α → Prop} {P : Program} {w : World} {ops : Array Oper} {rest : List Oper} {o : Oper} {a : Act} {Q : Exit → Act → World → Prop} {F : Fence} {nF : Nat}
theorem wpList_delT [DecidableEq α] (w : World) (hg : o.guard = none) (m x : Operand) (t k : TypeId) (hop : o.op = Op.call { callee := Callee.builtin Builtin.delete, args := #[m, x], argTypes := #[t, k] }) (e : TypeId) (K : Keyed P k) (hinj : ∀ x y, okk x → okk y → enc x = enc y → x = y) (ht : P.underlying t = some (.map k e)) (b n s : Nat) (G : α → Option Value) (h : MapIs enc okk P k w b n G s) (y : α) (hy : okk y) {ky : Lit} (hky : keyOf P k (enc y) = some ky)
    (hm : a.eval m = .map (some b)) (hx : a.eval x = enc y) (hK : ∀ w' s', MapIs enc okk P k w' b s' (updF G y none) s' → s' + (if (G y).isSome then 1 else 0) = s → w.grownBy w' (some b) → wpList P ops Q rest (a.put o.dst (.tuple #[])) w') : wpList P ops Q (o :: rest) a w := by
  refine wpList_plain hg fun K' hK' => ?_
  obtain ⟨w', s', hrun, r1, r2, r3⟩ := h.dropT K hinj ht hy hky o.type
  unfold Oper.wp
  simp [execOp, hop, resolve, invoke, builtin, hm, hx, hrun, Result.andThen]
  exact hK' _ _ (hK w' s' r1 r2 r3)
end
/-- The elements of a set of these ints. -/
def setF (l : List Int) : Int → Option Value := fun x => if x ∈ l then some (.agg #[]) else none
theorem setF_some (l : List Int) (x : Int) : (setF l x).isSome = decide (x ∈ l) := by unfold setF; split <;> simp_all
theorem setF_upd (l : List Int) (c : Int) : updF (setF l) c (some (.agg #[])) = setF (c :: l) := by
  funext y
  unfold updF setF
  by_cases h : y = c
  · subst h; simp
  · rw [if_neg h]
    by_cases h2 : y ∈ l
    · rw [if_pos h2, if_pos (List.mem_cons_of_mem _ h2)]
    · rw [if_neg h2, if_neg (fun h3 => by rcases List.mem_cons.1 h3 with h4 | h4; exact h h4; exact h2 h4)]
theorem setF_upd_in {l : List Int} {c : Int} (hc : c ∈ l) : updF (setF l) c (some (.agg #[])) = setF l := by
  funext y
  unfold updF setF
  by_cases h : y = c
  · subst h; rw [if_pos rfl, if_pos hc]
  · rw [if_neg h]
theorem setF_drop {l : List Int} {c : Int} (hc : c ∉ l) : updF (setF (c :: l)) c none = setF l := by
  funext y
  unfold updF setF
  by_cases h : y = c
  · subst h; rw [if_pos rfl, if_neg hc]
  · rw [if_neg h]
    by_cases h2 : y ∈ l
    · rw [if_pos h2, if_pos (List.mem_cons_of_mem _ h2)]
    · rw [if_neg h2, if_neg (fun h3 => by rcases List.mem_cons.1 h3 with h4 | h4; exact h h4; exact h2 h4)]
/-- A set of these ints. -/
def SetIs (w : World) (b : Nat) (l : List Int) : Prop := MapIs intEnc intOk Tryz.prog 3 w b l.length (setF l) l.length
theorem zero148 (w : World) : (zeroValue 148).run Tryz.prog w = .ok (.agg #[]) w := by kernel_rfl
theorem SetIs.made (w : World) : SetIs (w.alloc (.map #[] 0)) w.heap.size [] := by
  have h := MapIs.made (enc := intEnc) (okk := intOk) (P := Tryz.prog) (k := 3) w
  have e : (fun _ => none : Int → Option Value) = setF [] := by funext y; rfl
  rw [e] at h
  exact h
end Go.Proofs.YtebgebgkieglhaaGreatDoor.FieldW
end
section
/- data: round. -/
namespace Go.Proofs.YtebgebgkieglhaaGreatDoor.FieldW
open Go.RowKit Go.Shelf Go.Lib Go.Proofs Go.Proofs.YtebgebgkieglhaaGreatDoorW.PrintWords Go.Proofs.YtebgebgkieglhaaGreatDoorW.PrintLast Go.Proofs.YtebgebgkieglhaaGreatDoorW.PrintMore Go.Proofs.YtebgebgkieglhaaGreatDoor.PRef
set_option linter.unusedVariables false
set_option linter.unusedSimpArgs false
attribute [local go_sem] Oper.semAt_some


/-- Nothing but two blocks is written. -/
structure Kept2 (p q : Nat) (A B : World) : Prop where
  os : B.os = A.os
  tape : B.tape = A.tape
  output : B.output = A.output
  size : A.heap.size ≤ B.heap.size
  block : ∀ k, k < A.heap.size → k ≠ p → k ≠ q → B.heap[k]? = A.heap[k]?
theorem Kept2.refl (p q : Nat) (A : World) : Kept2 p q A A := ⟨rfl, rfl, rfl, Nat.le_refl _, fun _ _ _ _ => rfl⟩
theorem Kept2.trans {p q : Nat} {A B C : World} (h : Kept2 p q A B) (h2 : Kept2 p q B C) : Kept2 p q A C :=
  ⟨h2.os.trans h.os, h2.tape.trans h.tape, h2.output.trans h.output, Nat.le_trans h.size h2.size, fun k hk hp hq => (h2.block k (Nat.lt_of_lt_of_le hk h.size) hp hq).trans (h.block k hk hp hq)⟩
theorem Kept2.below {p q : Nat} {A B : World} (h : Go.RowKit.Below A.heap.size A B) : Kept2 p q A B := ⟨h.os, h.tape, h.output, h.size, fun k hk _ _ => h.block k hk⟩
theorem Kept2.grownL {p q : Nat} {A B : World} (h : A.grownBy B (some p)) : Kept2 p q A B := ⟨h.os, h.tape, h.output, h.size, fun k hk hp _ => h.block k hk (fun e => hp (by cases e; rfl))⟩
theorem Kept2.grownR {p q : Nat} {A B : World} (h : A.grownBy B (some q)) : Kept2 p q A B := ⟨h.os, h.tape, h.output, h.size, fun k hk _ hq => h.block k hk (fun e => hq (by cases e; rfl))⟩
def isMap (w : World) (b : Nat) : Prop := ∃ es c, w.heap[b]? = some (.map es c)
theorem R_kept2 {α : Type} {kd : Kd α} {ty : TypeId} {A B : World} {base p q : Nat} {ok : Nat → Prop} {v : Value} {l : List α} (h : Kd.R kd ty A base ok v l) (hk : Kept2 p q A B) (hp : isMap A p) (hq : isMap A q) : Kd.R kd ty B base ok v l := by
  obtain ⟨es, c, hp⟩ := hp
  obtain ⟨es', c', hq⟩ := hq
  refine Kd.R_mono (Kd.R_step (Kd.R_bound h) (fun k hk' hlt => hk.block k hlt (fun e => ?_) (fun e => ?_))) (fun k hk' => hk'.1)
  · obtain ⟨q9, _, cells, hc⟩ := hk'.2.2.2
    rw [e, hp] at hc
    cases hc
  · obtain ⟨q9, _, cells, hc⟩ := hk'.2.2.2
    rw [e, hq] at hc
    cases hc
theorem UTab.kept2 {A B : World} {base g p q : Nat} {l : List URow} (h : UTab A base g l) (hk : Kept2 p q A B) (hp : isMap A p) (hq : isMap A q) : UTab B base g l := by
  obtain ⟨v, h1, h2, h3⟩ := h
  refine ⟨v, (hk.block g (blk_lt h1) (fun e => ?_) (fun e => ?_)).trans h1, h2, R_kept2 h3 hk hp hq⟩
  · obtain ⟨es, c, hp⟩ := hp; subst e; rw [h1] at hp; cases hp
  · obtain ⟨es, c, hq⟩ := hq; subst e; rw [h1] at hq; cases hq
theorem cell_kept2 {A B : World} {g i p q : Nat} {v : Value} (h : A.cell? ⟨g, i, none⟩ = some v) (hk : Kept2 p q A B) (hp : isMap A p) (hq : isMap A q) : B.cell? ⟨g, i, none⟩ = some v := by
  have hlt : g < A.heap.size := World.block_lt_of_cell? A _ h
  have : B.heap[g]? = A.heap[g]? := hk.block g hlt (fun e => by
    obtain ⟨es, c, hp⟩ := hp
    subst e
    unfold World.cell? at h
    rw [hp] at h
    cases h) (fun e => by
    obtain ⟨es, c, hq⟩ := hq
    subst e
    unfold World.cell? at h
    rw [hq] at h
    cases h)
  unfold World.cell? at h ⊢
  rw [this]
  exact h
theorem SetIs.isMap {w : World} {b : Nat} {l : List Int} (h : SetIs w b l) : isMap w b := MapIs.is_map h
/-- What a table of rows is. -/
structure RowsOk (rs : List URow) : Prop where
  rise : RisingR rs
  good : ∀ r ∈ rs, goodR r
  one : ∀ r ∈ rs, oneR r
  len : rs.length ≤ 100001
theorem RowsOk.dec {rs : List URow} (h : RowsOk rs) (c : Int) : (decR rs c).length ≤ 2 ∧ ∀ x ∈ decR rs c, 0 ≤ x ∧ x ≤ 1114111 := by
  unfold decR
  rcases rowAt_or rs c with ⟨h2, _⟩ | ⟨h2, _⟩
  · rw [h2]; exact ⟨by decide, fun x hx => by cases hx⟩
  · exact ⟨(h.good _ h2).2.2.2.1, (h.good _ h2).2.2.2.2⟩
/-- What is done: no two alike, each behind what it hangs on. -/
structure DoneOk (rs : List URow) (dl : List Int) : Prop where
  nodup : dl.Nodup
  topo : Topo (decR rs) dl
  inu : ∀ x ∈ dl, 0 ≤ x ∧ x ≤ 1114111
theorem DoneOk.len {rs : List URow} {dl : List Int} (h : DoneOk rs dl) : dl.length ≤ 1114112 := by
  have := pigeons (m := (List.range 1114112).map Int.ofNat) h.nodup (fun x hx => by
    have := h.inu x hx
    rw [List.mem_map]
    exact ⟨x.toNat, by rw [List.mem_range]; omega, by show ((x.toNat : Nat) : Int) = x; omega⟩)
  rw [List.length_map, List.length_range] at this
  exact this
theorem open_len {rs : List URow} (hG : RowsOk rs) {ol : List Int} {c : Int} (h : OnWay (decR rs) (c :: ol)) (hn : ol.Nodup) : ol.length ≤ rs.length := by
  have := pigeons (m := rs.map URow.first) hn (fun o ho => by
    obtain ⟨r, hr, _, h1, _⟩ := decR_some hG.one (OnWay.some h o ho)
    rw [List.mem_map]
    exact ⟨r, hr, h1⟩)
  rwa [List.length_map] at this
end Go.Proofs.YtebgebgkieglhaaGreatDoor.FieldW
end
section
/- data: round is walked. -/
namespace Go.Proofs.YtebgebgkieglhaaGreatDoor.FieldW
open Go.RowKit Go.Shelf Go.Lib Go.Proofs Go.Proofs.YtebgebgkieglhaaGreatDoorW.PrintWords Go.Proofs.YtebgebgkieglhaaGreatDoorW.PrintLast Go.Proofs.YtebgebgkieglhaaGreatDoorW.PrintMore Go.Proofs.YtebgebgkieglhaaGreatDoor.PRef
set_option linter.unusedVariables false
set_option linter.unusedSimpArgs false
attribute [local go_sem] Oper.semAt_some


theorem SetIs.add {w' : World} {b : Nat} {l : List Int} {c : Int} (hc : c ∉ l) (h : MapIs intEnc intOk Tryz.prog 3 w' b (l.length + 1) (updF (setF l) c (some (.agg #[]))) (if (setF l c).isSome then l.length else l.length + 1)) : SetIs w' b (c :: l) := by
  rw [setF_upd, setF_some, if_neg (by simpa using hc)] at h
  exact h
theorem SetIs.same {w' : World} {b : Nat} {l : List Int} {c : Int} (hc : c ∈ l) (h : MapIs intEnc intOk Tryz.prog 3 w' b (l.length + 1) (updF (setF l) c (some (.agg #[]))) (if (setF l c).isSome then l.length else l.length + 1)) : SetIs w' b l := by
  rw [setF_upd_in hc, setF_some, if_pos (by simpa using hc)] at h
  exact h.tight
theorem SetIs.del {w' : World} {b s' : Nat} {l : List Int} {c : Int} (hc : c ∉ l) (h : MapIs intEnc intOk Tryz.prog 3 w' b s' (updF (setF (c :: l)) c none) s') (hs : s' + (if (setF (c :: l) c).isSome then 1 else 0) = (c :: l).length) : SetIs w' b l := by
  rw [setF_drop hc] at h
  rw [setF_some, if_pos (by simp), List.length_cons] at hs
  have : s' = l.length := by omega
  subst this
  exact h
theorem SetIs.kept {w w' : World} {b : Nat} {l : List Int} {row : Option Nat} (h : SetIs w b l) (hg : w.grownBy w' row) (hne : some b ≠ row) : SetIs w' b l := MapIs.kept h hg hne
theorem SetIs.below {w w' : World} {b : Nat} {l : List Int} (h : SetIs w b l) (hg : Go.RowKit.Below w.heap.size w w') : SetIs w' b l := MapIs.below h hg
/-- Between two rounds of the loop over a decomposition. -/
structure RndI (rs : List URow) (Bd Bo : Nat) (c : Int) (dl ol : List Int) (w5 : World) (i : Nat) (wr : World) : Prop where
  kept : Kept2 Bd Bo w5 wr
  open_ : SetIs wr Bo (c :: ol)
  done : ∃ d1, DoneOk rs d1 ∧ (∀ x ∈ dl, x ∈ d1) ∧ (∀ x ∈ (decR rs c).take i, x ∈ d1) ∧ SetIs wr Bd d1
set_option maxHeartbeats 4000000 in
set_option maxRecDepth 100000 in
theorem round_calls {rs : List URow} (hG : RowsOk rs) (D gu base Bd Bo : Nat) (hne : Bd ≠ Bo) : ∀ (n : Nat) (c : Int) (dl ol : List Int) (w : World), rs.length + 1 ≤ ol.length + n → 0 ≤ c → c ≤ 1114111 → OnWay (decR rs) (c :: ol) → ol.Nodup → DoneOk rs dl → SetIs w Bd dl → SetIs w Bo ol → w.cell? ⟨D, 0, none⟩ = some (.pointer (some ⟨gu, 0, none⟩)) → UTab w base gu rs →
    Calls Tryz.prog 60 #[.pointer (some ⟨D, 0, none⟩), .int .i64 c, .map (some Bd), .map (some Bo)] w fun e w' => ∃ r, e = .returned (.bool r) ∧ Kept2 Bd Bo w w' ∧ (r = true → Cyc (decR rs)) ∧ (r = false → ∃ dl', DoneOk rs dl' ∧ (∀ x ∈ dl, x ∈ dl') ∧ c ∈ dl' ∧ SetIs w' Bd dl' ∧ SetIs w' Bo ol) := by
  intro n
  induction n with
  | zero =>
    intro c dl ol w hm h0 h1 hC hN hD hSd hSo hDc hU
    exact absurd (open_len hG hC hN) (by omega)
  | succ n ih =>
    intro c dl ol w hm h0 h1 hC hN hD hSd hSo hDc hU
    have HK := Aside0.mk (And.intro (intOk_of (x := c) (by omega) (by omega)) (intKey (x := c) Tryz.underlying3 (intOk_of (by omega) (by omega))))
    have IH := Aside0.mk ih
    obtain ⟨PP, hPP⟩ : ∃ PP : Ending → World → Prop, PP = fun e w' => ∃ r, e = .returned (.bool r) ∧ Kept2 Bd Bo w w' ∧ (r = true → Cyc (decR rs)) ∧ (r = false → ∃ dl', DoneOk rs dl' ∧ (∀ x ∈ dl, x ∈ dl') ∧ c ∈ dl' ∧ SetIs w' Bd dl' ∧ SetIs w' Bo ol) := ⟨_, rfl⟩
    rw [← hPP]
    have HPP := Aside0.mk hPP
    have HS := Aside0.mk (And.intro hSd (And.intro hSo hU))
    have hol := open_len hG hC hN
    have hrl := hG.len
    have hml : ol.length < maxLen := by unfold maxLen; omega
    have HC := Aside0.mk (And.intro hC (And.intro hN (And.intro hD hm)))
    have hDl := World.block_lt_of_cell? w _ hDc
    clear ih hPP hC hN hD hSd hSo hU hm
    have al1 : ∀ (o : Obj), Go.RowKit.Below w.heap.size w (w.alloc o) := fun o => below_alloc (Go.RowKit.Below.refl _ _) _
    have al2 : ∀ (o o' : Obj), Go.RowKit.Below w.heap.size w ((w.alloc o).alloc o') := fun o o' => below_alloc (below_alloc (Go.RowKit.Below.refl _ _) _) _
    have HA := Aside0.mk (And.intro al1 al2)
    clear al1 al2
    by_cases hco : c ∈ ol
    · have o1 : (setF ol c).isSome = true := by rw [setF_some]; exact decide_eq_true hco
      have o2 : (setF ol c).getD (.agg #[]) = .agg #[] := by unfold setF; rw [if_pos hco]; rfl
      go_enter Tryz.func60, Tryz.ntmps60
      go_wp2_with (at_lookup; refine wpList_look _ rfl _ _ 111 rfl 3 148 (Go.Maps.int_keyed Tryz.underlying3) Tryz.underlying111 (zero148 _) _ _ _ _ HS.out.2.1 c HK.out.1 HK.out.2 rfl rfl ?_; rw [o1, o2])
      rw [HPP.out]
      exact ⟨true, rfl, Kept2.below (HA.out.1 _), fun _ => ⟨c, OnWay.goes HC.out.1 c hco⟩, fun h => by cases h⟩
    · have o1 : (setF ol c).isSome = false := by rw [setF_some]; exact decide_eq_false hco
      have o2 : (setF ol c).getD (.agg #[]) = .agg #[] := by unfold setF; rw [if_neg hco]; rfl
      by_cases hcd : c ∈ dl
      · have d1 : (setF dl c).isSome = true := by rw [setF_some]; exact decide_eq_true hcd
        have d2 : (setF dl c).getD (.agg #[]) = .agg #[] := by unfold setF; rw [if_pos hcd]; rfl
        go_enter Tryz.func60, Tryz.ntmps60
        go_wp2_with (first | (at_lookup; refine wpList_look _ rfl _ _ 111 rfl 3 148 (Go.Maps.int_keyed Tryz.underlying3) Tryz.underlying111 (zero148 _) _ _ _ _ HS.out.2.1 c HK.out.1 HK.out.2 rfl rfl ?_; rw [o1, o2]) | (at_lookup; refine wpList_look _ rfl _ _ 111 rfl 3 148 (Go.Maps.int_keyed Tryz.underlying3) Tryz.underlying111 (zero148 _) _ _ _ _ (HS.out.1.below (HA.out.1 _)) c HK.out.1 HK.out.2 rfl rfl ?_; rw [d1, d2]))
        rw [HPP.out]
        exact ⟨false, rfl, Kept2.below (HA.out.2 _ _), fun h => (by cases h), fun _ => ⟨dl, HC.out.2.2.1, fun _ h => h, hcd, HS.out.1.below (HA.out.2 _ _), HS.out.2.1.below (HA.out.2 _ _)⟩⟩
      · have d1 : (setF dl c).isSome = false := by rw [setF_some]; exact decide_eq_false hcd
        have d2 : (setF dl c).getD (.agg #[]) = .agg #[] := by unfold setF; rw [if_neg hcd]; rfl
        have hdd := (hG.dec c).1
        have HDD := Aside0.mk (hG.dec c).2
        go_enter Tryz.func60, Tryz.ntmps60
        go_wp2_with (first
          | (at_lookup; refine wpList_look _ rfl _ _ 111 rfl 3 148 (Go.Maps.int_keyed Tryz.underlying3) Tryz.underlying111 (zero148 _) _ _ _ _ HS.out.2.1 c HK.out.1 HK.out.2 rfl rfl ?_; rw [o1, o2])
          | (at_lookup; refine wpList_look _ rfl _ _ 111 rfl 3 148 (Go.Maps.int_keyed Tryz.underlying3) Tryz.underlying111 (zero148 _) _ _ _ _ (HS.out.1.below (HA.out.1 _)) c HK.out.1 HK.out.2 rfl rfl ?_; rw [d1, d2])
          | (at_mapUpdate; refine wpList_upd _ rfl _ _ _ 111 rfl 3 148 (Go.Maps.int_keyed Tryz.underlying3) intInj Tryz.underlying111 _ _ _ _ (HS.out.2.1.below (HA.out.2 _ _)) hml c HK.out.1 HK.out.2 rfl rfl _ rfl ?_; intro w4 hM4 hg4; have hK4 : Kept2 Bd Bo w w4 := (Kept2.below (HA.out.2 _ _)).trans (Kept2.grownR hg4); have hD4 := cell_kept2 hDc hK4 HS.out.1.isMap HS.out.2.1.isMap; have H4 := Aside0.mk (And.intro hK4 (And.intro (SetIs.add hco hM4) (And.intro ((HS.out.1.below (HA.out.2 _ _)).kept hg4 (fun e => hne (by cases e; rfl))) (HS.out.2.2.kept2 hK4 HS.out.1.isMap HS.out.2.1.isMap)))); clear hM4 hg4 hK4)
          | (go_at_call 17; with_reducible refine (decU_calls base gu rs c _ H4.out.2.2.2 (by omega) hG.rise (Nat.le_trans hdd (by decide))).mono ?_; rintro e w5 ⟨v5, rfl, hR5, hB5⟩; have hD5 := cell_up hB5 hD4; obtain ⟨A5, c5, rfl⟩ := Kd.R_slice hR5; have H5 := Aside0.mk (And.intro hR5 hB5); clear hR5 hB5))
        obtain ⟨l, hl⟩ : ∃ l, l = decR rs c := ⟨_, rfl⟩
        have hl' : (rowAt rs c).dec = l := hl.symm
        rw [hl'] at H5 ⊢
        rw [← hl] at hdd HDD
        have HL := Aside0.mk hl
        have HF := Aside0.mk (And.intro hcd hco)
        clear hl hl' o1 o2 d1 d2 hcd hco
        go_loopw [39] (fun iv wr => ∃ i : Nat, i ≤ l.length ∧ iv = .int .i64 i ∧ RndI rs Bd Bo c dl ol w5 i wr) (fun iv wr => l.length - (intOf iv).toNat)
        case atStart => exact ⟨0, Nat.zero_le _, rfl, ⟨Kept2.refl _ _ _, H4.out.2.1.below H5.out.2, dl, HC.out.2.2.1, fun _ h => h, fun x h => (by cases h), H4.out.2.2.1.below H5.out.2⟩⟩
        case round =>
          obtain ⟨i, hi, rfl, hI⟩ := hrel
          obtain ⟨hk5, ho5, d1, hd1, hd2, hd3, hd4⟩ := hI
          have m1 := (H4.out.2.2.1.below H5.out.2).isMap
          have m2 := (H4.out.2.1.below H5.out.2).isMap
          have hcell := cell_kept2 hD5 hk5 m1 m2
          have hdl := hd1.len
          have hmd : d1.length < maxLen := by unfold maxLen; omega
          by_cases hlt : i < l.length
          · obtain ⟨A9, c9, e9, hc9, hC9⟩ := Kd.R_reads (R_kept2 H5.out.1 hk5 m1 m2)
            injection e9 with e1 e2 e3
            subst e1 e3
            obtain ⟨ad, rfl, hx⟩ := Kd.at_int hC9 (i : Int) (by omega) (by omega)
            rw [Int.toNat_natCast] at hx
            have hltz : (i : Int) < (l.length : Int) := by omega
            obtain ⟨x, hxe⟩ : ∃ x, x = rd l i := ⟨_, rfl⟩
            rw [← hxe] at hx
            have hxm : l[i]? = some x := by rw [hxe]; unfold rd; simp [List.getElem?_eq_getElem hlt]
            have hxin : x ∈ l := List.mem_of_getElem? hxm
            have hxu := HDD.out x hxin
            have HR := Aside0.mk (And.intro hk5 (And.intro ho5 (And.intro hd1 (And.intro hd2 (And.intro hd3 (And.intro hd4 (And.intro hxm (And.intro hxin (H4.out.2.2.2.below H5.out.2 |>.kept2 hk5 m1 m2)))))))))
            clear hk5 ho5 hd1 hd2 hd3 hd4 hxm hxin hC9 m1 m2 hxe
            have HN := Aside0.mk (show rs.length + 1 ≤ (c :: ol).length + n by have := HC.out.2.2.2; rw [List.length_cons]; omega)
            have HW := Aside0.mk (show OnWay (decR rs) (x :: c :: ol) from ⟨by rw [← HL.out]; exact HR.out.2.2.2.2.2.2.2.1, HC.out.1⟩)
            have HND := Aside0.mk (List.nodup_cons.2 ⟨HF.out.2, HC.out.2.1⟩)
            go_wp2_with (go_at_call 60; with_reducible refine (IH.out x d1 (c :: ol) _ HN.out hxu.1 hxu.2 HW.out HND.out HR.out.2.2.1 HR.out.2.2.2.2.2.1 HR.out.2.1 hcell HR.out.2.2.2.2.2.2.2.2).mono ?_; rintro e w6 ⟨r, rfl, hk6, ht6, hf6⟩; have H6 := Aside0.mk (And.intro hk6 (And.intro ht6 hf6)); clear hk6 ht6 hf6)
            · rename_i hr
              show PP (.returned (.bool true)) _
              rw [HPP.out]
              exact ⟨true, rfl, ((H4.out.1.trans (Kept2.below H5.out.2)).trans HR.out.1).trans H6.out.1, fun _ => H6.out.2.1 hr, fun h => (by cases h)⟩
            · rename_i hr
              obtain ⟨d2, k1, k2, k3, k4, k5⟩ := H6.out.2.2 hr
              refine ⟨⟨i + 1, by omega, by go_num, HR.out.1.trans H6.out.1, k5, d2, k1, fun y hy => k2 y (HR.out.2.2.2.1 y hy), fun y hy => ?_, k4⟩, by simp [intOf]; omega⟩
              rw [← HL.out, List.take_add_one, HR.out.2.2.2.2.2.2.1] at hy
              rcases List.mem_append.1 hy with hy | hy
              · exact k2 y (HR.out.2.2.2.2.1 y (HL.out ▸ hy))
              · have : y = x := by simpa using hy
                rw [this]; exact k3
          · have hltz : ¬ (i : Int) < (l.length : Int) := by omega
            have hil : i = l.length := by omega
            have HE := Aside0.mk (And.intro hk5 (And.intro ho5 (And.intro hd1 (And.intro hd2 (And.intro hd3 hd4)))))
            clear hk5 ho5 hd1 hd2 hd3 hd4 m1 m2 hcell
            go_wp2_with (first
              | (at_delete; refine wpList_delT _ rfl _ _ 111 3 rfl 148 (Go.Maps.int_keyed Tryz.underlying3) intInj Tryz.underlying111 _ _ _ _ HE.out.2.1 c HK.out.1 HK.out.2 rfl rfl ?_; intro w6 s6 hM6 hs6 hg6; have H6 := Aside0.mk (And.intro (SetIs.del HF.out.2 hM6 hs6) (And.intro (HE.out.2.2.2.2.2.kept hg6 (fun e => hne (by cases e; rfl))) hg6)); clear hM6 hs6 hg6)
              | (at_mapUpdate; refine wpList_upd _ rfl _ _ _ 111 rfl 3 148 (Go.Maps.int_keyed Tryz.underlying3) intInj Tryz.underlying111 _ _ _ _ H6.out.2.1 hmd c HK.out.1 HK.out.2 rfl rfl _ rfl ?_; intro w7 hM7 hg7; have H7 := Aside0.mk (And.intro hM7 hg7); clear hM7 hg7))
            show PP (.returned (.bool false)) _
            rw [HPP.out]
            obtain ⟨hk5, ho5, hd1, hd2, hd3, hd4⟩ := HE.out
            have hkp : Kept2 Bd Bo w w7 := (((H4.out.1.trans (Kept2.below H5.out.2)).trans hk5).trans (Kept2.grownR H6.out.2.2)).trans (Kept2.grownL H7.out.2)
            have hso7 : SetIs w7 Bo ol := H6.out.1.kept H7.out.2 (fun e => hne (by cases e; rfl))
            have hall : ∀ x ∈ decR rs c, x ∈ d1 := fun y hy => hd3 y (by rw [List.take_of_length_le (by rw [← HL.out]; omega)]; exact hy)
            by_cases hc1 : c ∈ d1
            · exact ⟨false, rfl, hkp, fun h => (by cases h), fun _ => ⟨d1, hd1, hd2, hc1, SetIs.same hc1 H7.out.1, hso7⟩⟩
            · exact ⟨false, rfl, hkp, fun h => (by cases h), fun _ => ⟨c :: d1, ⟨List.nodup_cons.2 ⟨hc1, hd1.nodup⟩, ⟨hall, hd1.topo⟩, fun y hy => by
                rcases List.mem_cons.1 hy with rfl | hy
                · exact ⟨h0, h1⟩
                · exact hd1.inu y hy⟩, fun y hy => List.mem_cons_of_mem _ (hd2 y hy), List.mem_cons_self, SetIs.add hc1 H7.out.1, hso7⟩⟩
end Go.Proofs.YtebgebgkieglhaaGreatDoor.FieldW
end
section
/- unicode: a range over the rows of a table. -/
namespace Go.Proofs.YtebgebgkieglhaaGreatDoor.FieldW
open Go.RowKit Go.Shelf Go.Lib Go.Proofs Go.Proofs.YtebgebgkieglhaaGreatDoorW.PrintWords Go.Proofs.YtebgebgkieglhaaGreatDoorW.PrintLast Go.Proofs.YtebgebgkieglhaaGreatDoorW.PrintMore Go.Proofs.YtebgebgkieglhaaGreatDoor.PRef
set_option linter.unusedVariables false
set_option linter.unusedSimpArgs false


/-- Between two rows: what the caller keeps (Inv); the blocks that are not the caller's (Z) are newer than the range. -/
def rI (n1 : Nat) (Inv : List URow → World → Prop) (Z : Nat → Prop) (pre : List URow) (W : World) : Prop :=
  Inv pre W ∧ n1 ≤ W.heap.size ∧ ∀ b, Z b → n1 ≤ b ∧ b < W.heap.size
/-- A row as a loop's variable holds it. -/
def rowC (x : URow) (v : Value) : Array Value := #[.int .i64 x.first, .int .i64 x.last, .string x.gc, .int .i64 x.ccc, .string x.bidi, v]
/-- The caller's facts hang only on what is older than the range. -/
def StayI (n1 : Nat) (Inv : List URow → World → Prop) : Prop := ∀ pre A B, Inv pre A → Go.RowKit.Below n1 A B → Inv pre B
theorem below_of_grown {n1 : Nat} {A B : World} {row : Option Nat} (hg : A.grownBy B row) (hr : ∀ r, row = some r → n1 ≤ r) (hn : n1 ≤ A.heap.size) : Go.RowKit.Below n1 A B :=
  ⟨hg.os, hg.tape, hg.output, hg.size, fun k hk => hg.block k (by omega) (fun e => by have := hr k e.symm; omega)⟩
theorem rI_abides {n1 : Nat} {Inv : List URow → World → Prop} (h : StayI n1 Inv) : AbidesZ (rI n1 Inv) := by
  rintro Z Z' s A B row ⟨h1, h2, h3⟩ hg hr hz
  refine ⟨h _ _ _ h1 (below_of_grown hg (fun r e => (h3 r (hr r e)).1) h2), Nat.le_trans h2 hg.size, fun b hb => ?_⟩
  have hs := hg.size
  rcases hz b hb with h4 | h4
  · have := h3 b h4; omega
  · omega
/-- A round's end. -/
theorem rI_next {n0 n1 : Nat} {K Z : Nat → Prop} {Inv : List URow → World → Prop} {W W' : World} {xs : List URow} (hZ : ∀ b, Z b → n1 ≤ b ∧ b < W.heap.size) (hK : ∀ b, K b → b < W.heap.size) (hn : n1 ≤ W.heap.size)
    (hk : ∀ b, b < W.heap.size → n1 ≤ b ∨ K b → W'.heap[b]? = W.heap[b]?) (hb : Go.RowKit.Below n0 W W') (hI : Inv xs W') : KeepZ (fun b => Z b ∨ K b) W W' ∧ Go.RowKit.Below n0 W W' ∧ rI n1 Inv Z xs W' := by
  have hs := hb.size
  refine ⟨fun b hb => ?_, hb, hI, by omega, fun b hb => by have := hZ b hb; omega⟩
  rcases hb with hb | hb
  · exact hk b (hZ b hb).2 (.inl (hZ b hb).1)
  · exact hk b (hK b hb) (.inr hb)
/-- .. and where it leaves. -/
theorem rI_leave {n1 : Nat} {K Z : Nat → Prop} {W W' : World} {Ix : Prop} (hZ : ∀ b, Z b → n1 ≤ b ∧ b < W.heap.size) (hK : ∀ b, K b → b < W.heap.size)
    (hk : ∀ b, b < W.heap.size → n1 ≤ b ∨ K b → W'.heap[b]? = W.heap[b]?) (hI : Ix) : KeepZ (fun b => Z b ∨ K b) W W' ∧ Ix := by
  refine ⟨fun b hb => ?_, hI⟩
  rcases hb with hb | hb
  · exact hk b (hZ b hb).2 (.inl (hZ b hb).1)
  · exact hk b (hK b hb) (.inr hb)
/-- **A range over the rows.** mk: a round's temporaries, told by the block of the loop's variable and by what the row's decomposition is held in. -/
theorem rows_range {g : Operand} {ps : Array Tmp} {assign body : Code} {Q : Exit → Act → World → Prop} {a : Act} {w w0 : World} {Bx base gu n0 : Nat} {rs : List URow}
    (hg : a.eval g = .func (.func 40) #[] #[.pointer (some ⟨Bx, 0, none⟩)]) (hb : w.heap[Bx]? = some (.cells #[.pointer (some ⟨gu, 0, none⟩)] 35 (0, 0))) (hT : UTab w0 base gu rs) (h0w : Go.RowKit.Below w0.heap.size w0 w) (hn0 : n0 ≤ w.heap.size) (hl : rs.length ≤ 1000000) (hd : ∀ r ∈ rs, r.dec.length ≤ 1000000) (hps : ps.size = 1)
    (mk : URow → Nat → Value → Act) (Inv : List URow → World → Prop) (Ix : Code → List URow → World → Prop) (hst : StayI w.heap.size Inv) (hsx : ∀ c, StayI w.heap.size (Ix c)) (h0 : Inv [] w)
    (hassign : ∀ (l : Nat) (x : URow) (A : Option Addr) (c : Nat) (W : World) (Kc : Act → World → Prop), Kc (mk x W.heap.size (.slice A x.dec.length c)) (W.alloc (.cells (rowC x (.slice A x.dec.length c)) 40)) →
      assign.wpIn (Fence.wide.inRound l) 2 Tryz.prog (Exit.then Kc (fun _ _ _ => False)) { tmps := (ps.zip #[.agg (rowC x (.slice A x.dec.length c))]).foldl (fun t (p, v) => t.setIfInBounds p v) a.tmps, defers := [] } W)
    (hbody : ∀ (l : Nat) (Z : Nat → Prop) (pre : List URow) (x : URow) (r : List URow) (Lv : Nat) (v : Value) (W : World), Inv pre W → rs = pre ++ x :: r → W.heap[Lv]? = some (.cells (rowC x v) 40 (0, 0)) → w.heap.size ≤ Lv → Kd.R (Kd.int .i64) 3 W n0 (fun _ => True) v x.dec →
      w.heap.size ≤ W.heap.size → (∀ b, Z b → w.heap.size ≤ b ∧ b < W.heap.size) → (∀ b, ((base ≤ b ∧ b < w0.heap.size) ∨ b = Bx) → b < W.heap.size) →
      body.wpIn (Fence.wide.inRound l) 2 Tryz.prog (postZ (fun b => (base ≤ b ∧ b < w0.heap.size) ∨ b = Bx) Z n0 (rI w.heap.size Inv) Ix (pre ++ [x]) W) (mk x Lv v) W)
    (hdone : ∀ W, Inv rs W → w.heap.size ≤ W.heap.size → W.heap[w.heap.size]? = some (.deferred (some [])) → Q .normal { a with defers := { target := .collected w.heap.size, args := #[] } :: a.defers } W)
    (hstop : ∀ (c : Code) (pre : List URow) (x : URow) (r : List URow) (W : World), rs = pre ++ x :: r → Ix c (pre ++ [x]) W → W.heap[w.heap.size]? = some (.deferred (some [])) → c.wpIn Fence.wide 4 Tryz.prog Q { a with defers := { target := .collected w.heap.size, args := #[] } :: a.defers } W) :
    (Code.rangeFunc g ps assign body).wpIn Fence.wide 4 Tryz.prog Q a w := by
  have hK : ∀ b, ((base ≤ b ∧ b < w0.heap.size) ∨ b = Bx) → b < w.heap.size := by
    have := h0w.size
    have := blk_lt hb
    rintro b (h | rfl) <;> omega
  refine range_E (n := 4) (by omega) (gf := 40) (lb := #[.pointer (some ⟨Bx, 0, none⟩)]) hg (enters_of Tryz.func40 (by kernel_rfl) rfl) (rowE_abides n0) (rows_own hb hT h0w hn0 hl hd) (Go.RowKit.Below.refl _ _) hn0 (fun b hb => hb.elim) hK (fun Z x us W h => by obtain ⟨v, rfl, _⟩ := h; simp [hps])
    (rI w.heap.size Inv)
    (fun Z q W => ∃ Lv v, q.2.2 = mk q.2.1 Lv v ∧ rI w.heap.size Inv Z q.1 W ∧ W.heap[Lv]? = some (.cells (rowC q.2.1 v) 40 (0, 0)) ∧ ¬ Z Lv ∧ w.heap.size ≤ Lv ∧ Kd.R (Kd.int .i64) 3 W n0 (fun k => ¬ Z k) v q.2.1.dec)
    Ix (rI_abides hst) ?_ ?_ ?_ ?_ ?_ ?_ ?_
  · rintro Z Z' ⟨pre, x, a'⟩ A B row ⟨Lv, v, e, h, h2, h3, h4, h5⟩ hg hr hz
    have hlt := blk_lt h2
    refine ⟨Lv, v, e, rI_abides hst _ _ _ _ _ _ h hg hr hz, (hg.block _ hlt (fun e => h3 (hr _ e.symm))).trans h2, fun hz' => ?_, h4, ?_⟩
    · rcases hz _ hz' with h | h
      · exact h3 h
      · omega
    · exact Kd.R_mono (Kd.R_step (Kd.R_bound h5) (fun k hk hlt => hg.block k hlt (fun e => hk.1 (hr k e.symm)))) (fun k hk => fun hz' => by
        rcases hz k hz' with h1 | h1
        · exact hk.1 h1
        · have := hk.2.2.1; omega)
  · rintro c s W l r o hlr hr hI
    exact hsx c _ _ _ hI (below_put _ _ _ _ hlr)
  · exact ⟨h0, Nat.le_refl _, fun b hb => hb.elim⟩
  · rintro l Z pre x r us W Kc hI hx ⟨v, rfl, hv⟩ hK2
    obtain ⟨A, c, rfl⟩ := Kd.R_slice hv
    refine hassign l x A c W Kc (hK2 _ _ (fun b hb => Go.RowKit.Below.heap_alloc _ _ _ ?_) (below_alloc (Go.RowKit.Below.refl _ _) _ |>.mono (Nat.le_trans hn0 hI.2.1)) ⟨W.heap.size, _, rfl, ?_, heap_alloc_new _ _, fun h => by have := hI.2.2 _ h; omega, hI.2.1, Kd.R_alloc hv _⟩)
    · rcases hb with hb | hb
      · exact (hI.2.2 b hb).2
      · exact Nat.lt_of_lt_of_le (hK b hb) hI.2.1
    · exact rI_abides hst _ _ _ _ _ none hI (grown_alloc W _) (fun r e => by cases e) (fun b hb => .inl hb)
  · rintro l Z pre x r a' W ⟨Lv, v, e, h, h2, h3, h4, h5⟩ hx
    dsimp only at e
    subst e
    exact hbody l Z pre x r Lv v W h.1 hx h2 h4 (Kd.R_mono h5 (fun _ _ => trivial)) h.2.1 h.2.2 (fun b hb => Nat.lt_of_lt_of_le (hK b hb) h.2.1)
  · rintro Z W hI hDf
    exact hdone W hI.1 hI.2.1 hDf
  · rintro c pre x r W hx hI hDf
    exact hstop c pre x r W hx hI hDf
end Go.Proofs.YtebgebgkieglhaaGreatDoor.FieldW
end
section
/- data: turns. -/
namespace Go.Proofs.YtebgebgkieglhaaGreatDoor.FieldW
open Go.RowKit Go.Shelf Go.Lib Go.Proofs Go.Proofs.YtebgebgkieglhaaGreatDoorW.PrintWords Go.Proofs.YtebgebgkieglhaaGreatDoorW.PrintLast Go.Proofs.YtebgebgkieglhaaGreatDoorW.PrintMore Go.Proofs.YtebgebgkieglhaaGreatDoor.PRef
set_option linter.unusedVariables false
set_option linter.unusedSimpArgs false
attribute [local go_sem] Oper.semAt_some


theorem results_bool {fn : Func} {p : Tmp} (h : fn.results = #[.cell p 4]) (tmps : Array Value) (w : World) (a : Addr) (r : Bool) (ha : tmps.getD p undef = .pointer (some a)) (hr : w.cell? a = some (.bool r)) : (results fn tmps).run Tryz.prog w = .ok (.bool r) w := by
  have ha' : tmps[p]?.getD undef = .pointer (some a) := by simpa using ha
  have hu := Tryz.underlying4
  simp [results, h, ha', asAddr, go_sem, hu, hr]
/-- What turns keeps between two rows. -/
def trnI (rs : List URow) (D : Nat) (w : World) (pre : List URow) (W : World) : Prop :=
  ∃ dl, DoneOk rs dl ∧ (∀ r ∈ pre, r.dec ≠ [] → r.first ∈ dl) ∧ W.heap[w.heap.size]? = some (.cells #[.pointer (some ⟨D, 0, none⟩)] 27 (0, 0)) ∧ W.heap[w.heap.size + 1]? = some (.cells #[.bool false] 4 (0, 0)) ∧
    W.heap[w.heap.size + 4]? = some (.cells #[.map (some (w.heap.size + 2))] 111 (0, 0)) ∧ W.heap[w.heap.size + 5]? = some (.cells #[.map (some (w.heap.size + 3))] 111 (0, 0)) ∧
    SetIs W (w.heap.size + 2) dl ∧ SetIs W (w.heap.size + 3) [] ∧ Go.RowKit.Below w.heap.size w W ∧ w.heap.size + 7 ≤ W.heap.size
theorem trnI_stay (rs : List URow) (D : Nat) (w : World) : StayI (w.heap.size + 7) (trnI rs D w) := by
  rintro pre A B ⟨dl, h1, h2, h3, h4, h5, h6, h7, h8, h9, h10⟩ hb
  have hs := hb.size
  exact ⟨dl, h1, h2, (hb.block _ (by omega)).trans h3, (hb.block _ (by omega)).trans h4, (hb.block _ (by omega)).trans h5, (hb.block _ (by omega)).trans h6, MapIs.block h7 (hb.block _ (by omega)), MapIs.block h8 (hb.block _ (by omega)), h9.trans (hb.mono (by omega)), by omega⟩
def trnX (rs : List URow) (w : World) (c : Code) (pre : List URow) (W : World) : Prop :=
  c = .ret ∧ Cyc (decR rs) ∧ W.heap[w.heap.size + 1]? = some (.cells #[.bool true] 4 (0, 0)) ∧ Go.RowKit.Below w.heap.size w W
theorem trnX_stay (rs : List URow) (w : World) (c : Code) : StayI (w.heap.size + 7) (trnX rs w c) := by
  rintro pre A B ⟨h1, h2, h3, h4⟩ hb
  exact ⟨h1, h2, (hb.block _ (by omega)).trans h3, h4.trans (hb.mono (by omega))⟩
set_option maxHeartbeats 4000000 in
set_option maxRecDepth 100000 in
theorem turns_calls {rs : List URow} (hG : RowsOk rs) (D gu base : Nat) (w : World) (hDc : w.cell? ⟨D, 0, none⟩ = some (.pointer (some ⟨gu, 0, none⟩))) (hU : UTab w base gu rs) :
    Calls Tryz.prog 37 #[.pointer (some ⟨D, 0, none⟩)] w fun e w' => ∃ r, e = .returned (.bool r) ∧ Go.RowKit.Below w.heap.size w w' ∧ (r = true → Cyc (decR rs)) ∧ (r = false → ∃ dl, DoneOk rs dl ∧ ∀ r ∈ rs, r.dec ≠ [] → r.first ∈ dl) := by
  have HU := Aside0.mk hU
  have hDl := World.block_lt_of_cell? w _ hDc
  obtain ⟨PP, hPP⟩ : ∃ PP : Ending → World → Prop, PP = fun e w' => ∃ r, e = .returned (.bool r) ∧ Go.RowKit.Below w.heap.size w w' ∧ (r = true → Cyc (decR rs)) ∧ (r = false → ∃ dl, DoneOk rs dl ∧ ∀ r ∈ rs, r.dec ≠ [] → r.first ∈ dl) := ⟨_, rfl⟩
  rw [← hPP]
  have HPP := Aside0.mk hPP
  clear hU hPP
  refine (callsIn_wide (n := 4)).1 ?_
  refine callsIn_of_wp_marks Tryz.func37 rfl trivial ?_ rfl
  simp only [Tryz.ntmps37, List.size_toArray, List.length_cons, List.length_nil, Nat.reduceAdd, Nat.reduceSub, Array.replicate_succ, Array.replicate_zero, List.push_toArray, List.append_toArray, List.nil_append, List.cons_append]
  refine wpIn_wide.2 ?_
  have hmm := @run_makeMap Tryz.prog
  have hcu : ∀ (W : World), Go.RowKit.Below w.heap.size w W → W.cell? ⟨D, 0, none⟩ = some (.pointer (some ⟨gu, 0, none⟩)) := fun W hb => (hb.cell (p := ⟨D, 0, none⟩) hDl).trans hDc
  have HCU := Aside0.mk hcu
  clear hcu
  have hc6 : ∀ (o1 o2 o3 o4 o5 o6 : Obj), ((((((w.alloc o1).alloc o2).alloc o3).alloc o4).alloc o5).alloc o6).cell? ⟨D, 0, none⟩ = some (.pointer (some ⟨gu, 0, none⟩)) := fun o1 o2 o3 o4 o5 o6 => HCU.out _ (below_alloc (below_alloc (below_alloc (below_alloc (below_alloc (below_alloc (Go.RowKit.Below.refl _ _) _) _) _) _) _) _)
  go_wp2_with (go_at_call 11; refine Aside0.out ?_)
  refine Aside0.mk ?_
  simp only [Nat.add_assoc, Nat.reduceAdd]
  obtain ⟨W6, hW6⟩ : ∃ W6, W6 = ((((((w.alloc (.cells #[.pointer (some ⟨D, 0, none⟩)] 27)).alloc (.cells #[.bool false] 4)).alloc (.map #[] 0)).alloc (.map #[] 0)).alloc (.cells #[.map (some (w.heap.size + 2))] 111)).alloc (.cells #[.map (some (w.heap.size + 3))] 111)) := ⟨_, rfl⟩
  rw [← hW6]
  have up : ∀ (W : World) (o : Obj) (k : Nat) (u : Obj), W.heap[k]? = some u → (W.alloc o).heap[k]? = some u := fun W o k u h => (Go.RowKit.Below.heap_alloc _ _ _ (Array.getElem?_eq_some_iff.1 h).1).trans h
  have nw : ∀ (W : World) (o : Obj) (k : Nat), k = W.heap.size → (W.alloc o).heap[k]? = some (match o with | .cells cs ty sh => .cells cs ty sh | o => o) := fun W o k h => by subst h; rw [heap_alloc_new]; cases o <;> rfl
  have q0 : W6.heap[w.heap.size]? = some (.cells #[.pointer (some ⟨D, 0, none⟩)] 27 (0, 0)) := by rw [hW6]; exact up _ _ _ _ (up _ _ _ _ (up _ _ _ _ (up _ _ _ _ (up _ _ _ _ (nw _ _ _ rfl)))))
  have q1 : W6.heap[w.heap.size + 1]? = some (.cells #[.bool false] 4 (0, 0)) := by rw [hW6]; exact up _ _ _ _ (up _ _ _ _ (up _ _ _ _ (up _ _ _ _ (nw _ _ _ (by simp)))))
  have q4 : W6.heap[w.heap.size + 4]? = some (.cells #[.map (some (w.heap.size + 2))] 111 (0, 0)) := by rw [hW6]; exact up _ _ _ _ (nw _ _ _ (by simp))
  have q5 : W6.heap[w.heap.size + 5]? = some (.cells #[.map (some (w.heap.size + 3))] 111 (0, 0)) := by rw [hW6]; exact nw _ _ _ (by simp)
  have qM2 : SetIs W6 (w.heap.size + 2) [] := by
    have h := SetIs.made ((w.alloc (.cells #[.pointer (some ⟨D, 0, none⟩)] 27)).alloc (.cells #[.bool false] 4))
    rw [World.size_alloc, World.size_alloc] at h
    rw [hW6]
    exact h.below (below_alloc (below_alloc (below_alloc (Go.RowKit.Below.refl _ _) _) _) _)
  have qM3 : SetIs W6 (w.heap.size + 3) [] := by
    have h := SetIs.made (((w.alloc (.cells #[.pointer (some ⟨D, 0, none⟩)] 27)).alloc (.cells #[.bool false] 4)).alloc (.map #[] 0))
    rw [World.size_alloc, World.size_alloc, World.size_alloc] at h
    rw [hW6]
    exact h.below (below_alloc (below_alloc (Go.RowKit.Below.refl _ _) _) _)
  have hs6 : W6.heap.size = w.heap.size + 6 := by rw [hW6]; simp
  have hb6 : Go.RowKit.Below w.heap.size w W6 := by rw [hW6]; exact below_alloc (below_alloc (below_alloc (below_alloc (below_alloc (below_alloc (Go.RowKit.Below.refl _ _) _) _) _) _) _) _
  refine (rows_calls gu W6).mono ?_
  rintro e Wr ⟨rfl, hWr⟩
  rw [hs6]
  have hb7 : Go.RowKit.Below w.heap.size w Wr := by rw [hWr]; exact below_alloc hb6 _
  have hs7 : Wr.heap.size = w.heap.size + 7 := by rw [hWr]; simp [hs6]
  have hbx : Wr.heap[w.heap.size + 6]? = some (.cells #[.pointer (some ⟨gu, 0, none⟩)] 35 (0, 0)) := by rw [hWr, ← hs6]; exact heap_alloc_new _ _
  have h67 : Go.RowKit.Below W6.heap.size W6 Wr := by rw [hWr]; exact below_alloc (Go.RowKit.Below.refl _ _) _
  have hinv : trnI rs D w [] Wr := ⟨[], ⟨List.nodup_nil, trivial, fun x h => (by cases h)⟩, fun r h => (by cases h), (h67.block _ (by omega)).trans q0, (h67.block _ (by omega)).trans q1, (h67.block _ (by omega)).trans q4, (h67.block _ (by omega)).trans q5, qM2.below h67, qM3.below h67, hb7, by omega⟩
  have HI := Aside0.mk (And.intro hinv (And.intro hbx (And.intro hb7 hs7)))
  clear hW6 up nw q0 q1 q4 q5 qM2 qM3 hs6 hb6 hWr hb7 hs7 hbx h67 hinv hmm hc6
  go_wp2
  refine (wpIn_wide (n := 4)).1 ?_
  refine rows_range (w0 := w) (base := base) (gu := gu) (n0 := w.heap.size) (Bx := w.heap.size + 6) (rs := rs) rfl HI.out.2.1 HU.out HI.out.2.2.1 HI.out.2.2.1.size (Nat.le_trans hG.len (by decide)) (fun r hr => Nat.le_trans (hG.good r hr).2.2.2.1 (by decide)) rfl
    (fun x Lv v => { tmps := #[.pointer (some ⟨D, 0, none⟩), .pointer (some ⟨w.heap.size, 0, none⟩), .pointer (some ⟨w.heap.size + 1, 0, none⟩), .pointer (some ⟨w.heap.size + 4, 0, none⟩), .pointer (some ⟨w.heap.size + 5, 0, none⟩), .pointer (some ⟨Lv, 0, none⟩), .map (some (w.heap.size + 2)), .map (some (w.heap.size + 3)), .pointer (some ⟨D, 0, none⟩), .pointer (some ⟨D, 0, none⟩), .pointer (some ⟨D, 0, none⟩), .pointer (some ⟨gu, 0, none⟩), .func (.func 40) #[] #[.pointer (some ⟨w.heap.size + 6, 0, none⟩)], .agg (rowC x v), undef, undef, undef, undef, undef, undef, undef, undef, undef, undef, undef, undef], defers := [] })
    (trnI rs D w) (trnX rs w) (HI.out.2.2.2 ▸ trnI_stay rs D w) (fun c => HI.out.2.2.2 ▸ trnX_stay rs w c) HI.out.1 ?assign ?body ?done ?stop
  case assign =>
    intro l x A c W Kc h
    unfold rowC at h ⊢
    gi_wp2
    exact h
  case body =>
    rintro lp Z pre x r Lv v W hI hx hL hLv hR hW hZ hK
    obtain ⟨A5, c5, rfl⟩ := Kd.R_slice hR
    obtain ⟨dl, i1, i2, i3, i4, i5, i6, i7, i8, i9, i10⟩ := hI
    have hxm : x ∈ rs := by rw [hx]; simp
    have y0 : W.cell? ⟨w.heap.size, 0, none⟩ = some _ := (blk_cell i3 0).trans rfl
    have y4 : W.cell? ⟨w.heap.size + 4, 0, none⟩ = some _ := (blk_cell i5 0).trans rfl
    have y5 : W.cell? ⟨w.heap.size + 5, 0, none⟩ = some _ := (blk_cell i6 0).trans rfl
    have l0 : W.cell? ⟨Lv, 0, none⟩ = some (.int .i64 x.first) := (blk_cell hL 0).trans rfl
    have l5 : W.cell? ⟨Lv, 5, none⟩ = some (.slice A5 x.dec.length c5) := (blk_cell hL 5).trans rfl
    unfold rowC
    have hgx := hG.good x hxm
    have hdl2 : x.dec.length ≤ 2 := hgx.2.2.2.1
    have HX := Aside0.mk (And.intro hx (And.intro hxm (And.intro hgx (And.intro hZ (And.intro hK hW)))))
    have HJ := Aside0.mk (And.intro i1 (And.intro i2 (And.intro i3 (And.intro i4 (And.intro i5 (And.intro i6 (And.intro i7 (And.intro i8 (And.intro i9 i10)))))))))
    clear hx hxm hgx hZ hK hW i1 i2 i3 i4 i5 i6 i7 i8 i9 i10 hR hL
    by_cases hd : x.dec = []
    · have hlz : ¬ ((x.dec.length : Int) > 0) := by rw [hd]; simp
      have hdz : decide ((x.dec.length : Int) > 0) = false := decide_eq_false hlz
      gi_wp2_with (refine ⟨trivial, ?_⟩)
      obtain ⟨i1, i2, i3, i4, i5, i6, i7, i8, i9, i10⟩ := HJ.out
      refine rI_next HX.out.2.2.2.1 HX.out.2.2.2.2.1 HX.out.2.2.2.2.2 (fun b _ _ => rfl) (Go.RowKit.Below.refl _ _) ⟨dl, i1, fun r hr hne => ?_, i3, i4, i5, i6, i7, i8, i9, i10⟩
      rcases List.mem_append.1 hr with hr | hr
      · exact i2 r hr hne
      · rw [List.mem_singleton] at hr; subst hr; exact absurd hd hne
    · have hlz : (x.dec.length : Int) > 0 := by have := List.length_pos_iff.2 hd; omega
      have hdz : decide ((x.dec.length : Int) > 0) = true := decide_eq_true hlz
      have CT := round_calls hG D gu base (w.heap.size + 2) (w.heap.size + 3) (by omega) (rs.length + 1) x.first dl [] W (by simp) (by have := HX.out.2.2.1.1; omega) (by have := HX.out.2.2.1; have := this.2.1; have := HX.out.2.2.1.2.2.1; omega) trivial List.nodup_nil HJ.out.1 HJ.out.2.2.2.2.2.2.1 HJ.out.2.2.2.2.2.2.2.1 (HCU.out _ HJ.out.2.2.2.2.2.2.2.2.1) (HU.out.below HJ.out.2.2.2.2.2.2.2.2.1)
      have HCT := Aside0.mk CT
      clear CT
      gi_wp2_with (first
        | (refine ⟨trivial, ?_⟩; gi_at_call 60; refine (CallsIn.inRound lp (callsIn_wide.2 HCT.out)).mono ?_; rintro e w6 ⟨rr, rfl, hk6, ht6, hf6⟩; have z1 := blk_frozen ((hk6.block _ (blk_lt HJ.out.2.2.2.1) (by omega) (by omega)).trans HJ.out.2.2.2.1) 0; have y1 : w6.cell? ⟨w.heap.size + 1, 0, none⟩ = some _ := (blk_cell ((hk6.block _ (blk_lt HJ.out.2.2.2.1) (by omega) (by omega)).trans HJ.out.2.2.2.1) 0).trans rfl; have H6 := Aside0.mk (And.intro hk6 (And.intro ht6 hf6)); clear hk6 ht6 hf6))
      all_goals (
        rename_i hr
        obtain ⟨i1, i2, i3, i4, i5, i6, i7, i8, i9, i10⟩ := HJ.out
        obtain ⟨hk6, ht6, hf6⟩ := H6.out)
      · refine rI_leave HX.out.2.2.2.1 HX.out.2.2.2.2.1 (fun b hb hk => ?_) ⟨rfl, ht6 hr, ?_, ?_⟩
        · have hne : b ≠ w.heap.size + 1 ∧ b ≠ w.heap.size + 2 ∧ b ≠ w.heap.size + 3 := by
            have := HI.out.2.2.2
            rcases hk with hk | hk | hk <;> omega
          exact (Go.RowKit.Below.heap_setCell w6 ⟨w.heap.size + 1, 0, none⟩ _ b hne.1).trans (hk6.block b hb hne.2.1 hne.2.2)
        · exact blk_set ((hk6.block _ (blk_lt i4) (by omega) (by omega)).trans i4) 0 _
        · exact i9.trans ((Go.RowKit.Below.setCell (p := ⟨w.heap.size + 1, 0, none⟩) (⟨hk6.os, hk6.tape, hk6.output, hk6.size, fun k hk => hk6.block k (by omega) (by omega) (by omega)⟩ : Go.RowKit.Below w.heap.size W w6) (by show w.heap.size ≤ w.heap.size + 1; omega) _))
      · obtain ⟨d2, e1, e2, e3, e4, e5⟩ := hf6 hr
        refine rI_next HX.out.2.2.2.1 HX.out.2.2.2.2.1 HX.out.2.2.2.2.2 (fun b hb hk => ?_) ⟨hk6.os, hk6.tape, hk6.output, hk6.size, fun k hk => hk6.block k (by omega) (by omega) (by omega)⟩ ⟨d2, e1, fun r hr hne => ?_, ?_, ?_, ?_, ?_, e4, e5, ?_, by have := hk6.size; omega⟩
        · have hne : b ≠ w.heap.size + 2 ∧ b ≠ w.heap.size + 3 := by
            have := HI.out.2.2.2
            rcases hk with hk | hk | hk <;> omega
          exact hk6.block b hb hne.1 hne.2
        · rcases List.mem_append.1 hr with hr | hr
          · exact e2 _ (i2 r hr hne)
          · rw [List.mem_singleton] at hr; subst hr; exact e3
        · exact (hk6.block _ (blk_lt i3) (by omega) (by omega)).trans i3
        · exact (hk6.block _ (blk_lt i4) (by omega) (by omega)).trans i4
        · exact (hk6.block _ (blk_lt i5) (by omega) (by omega)).trans i5
        · exact (hk6.block _ (blk_lt i6) (by omega) (by omega)).trans i6
        · exact i9.trans ⟨hk6.os, hk6.tape, hk6.output, hk6.size, fun k hk => hk6.block k (by omega) (by omega) (by omega)⟩
  case done =>
    rintro W ⟨dl, i1, i2, i3, i4, i5, i6, i7, i8, i9, i10⟩ hW hDf
    have y1 : W.cell? ⟨w.heap.size + 1, 0, none⟩ = some _ := (blk_cell i4 0).trans rfl
    have z1 := blk_frozen i4 0
    have HJ := Aside0.mk (And.intro i1 (And.intro i2 (And.intro i4 (And.intro i9 hDf))))
    clear i1 i2 i3 i4 i5 i6 i7 i8 i9 hDf
    gi_wp2
    go_wp2
    obtain ⟨i1, i2, i4, i9, hDf⟩ := HJ.out
    obtain ⟨W8, hW8⟩ : ∃ W8, W8 = W.setCell ⟨w.heap.size + 1, 0, none⟩ (.bool false) := ⟨_, rfl⟩
    rw [← hW8]
    have hs7 := HI.out.2.2.2
    have hD8 : W8.heap[Wr.heap.size]? = some (.deferred (some [])) := by rw [hW8]; exact (Go.RowKit.Below.heap_setCell W ⟨w.heap.size + 1, 0, none⟩ _ _ (by show Wr.heap.size ≠ w.heap.size + 1; omega)).trans hDf
    have h8 : W8.heap[w.heap.size + 1]? = some (.cells #[.bool false] 4 (0, 0)) := by rw [hW8]; exact blk_set i4 0 _
    have b8 : Go.RowKit.Below w.heap.size w W8 := by rw [hW8]; exact i9.setCell (p := ⟨w.heap.size + 1, 0, none⟩) (by show w.heap.size ≤ w.heap.size + 1; omega) _
    refine ⟨by simp, .inl ⟨_, _, rfl, run_takeDeferred hD8, ?_⟩⟩
    refine ⟨_, results_bool rfl _ _ ⟨w.heap.size + 1, 0, none⟩ false rfl ?_, ?_⟩
    · exact (blk_cell ((World.putObj_heap_other (by omega)).trans h8) 0).trans rfl
    · rw [HPP.out]
      exact ⟨false, rfl, b8.trans (below_put W8 Wr.heap.size w.heap.size _ (by omega)), fun h => (by cases h), fun _ => ⟨dl, i1, i2⟩⟩
  case stop =>
    rintro c pre x r W hx ⟨rfl, hcy, hres, hb⟩ hDf
    have hs7 := HI.out.2.2.2
    gi_wp2
    go_wp2
    refine ⟨by simp, .inl ⟨_, _, rfl, run_takeDeferred hDf, ?_⟩⟩
    refine ⟨_, results_bool rfl _ _ ⟨w.heap.size + 1, 0, none⟩ true rfl ?_, ?_⟩
    · exact (blk_cell ((World.putObj_heap_other (by omega)).trans hres) 0).trans rfl
    · rw [HPP.out]
      exact ⟨true, rfl, hb.trans (below_put W Wr.heap.size w.heap.size _ (by omega)), fun _ => hcy, fun h => (by cases h)⟩
end Go.Proofs.YtebgebgkieglhaaGreatDoor.FieldW
end
section
/- data: parts. -/
namespace Go.Proofs.YtebgebgkieglhaaGreatDoor.FieldW
open Go.RowKit Go.Shelf Go.Lib Go.Proofs Go.Proofs.YtebgebgkieglhaaGreatDoorW.PrintWords Go.Proofs.YtebgebgkieglhaaGreatDoorW.PrintLast Go.Proofs.YtebgebgkieglhaaGreatDoorW.PrintMore Go.Proofs.YtebgebgkieglhaaGreatDoor.PRef
set_option linter.unusedVariables false
set_option linter.unusedSimpArgs false
attribute [local go_sem] Oper.semAt_some


def pstep (rs : List URow) (k : Nat) (n x : Int) : Int := if n ≤ 4 then n + partsF (decR rs) k x else n
theorem pstep_le {rs : List URow} (hG : RowsOk rs) (k : Nat) : ∀ (l : List Int) (n : Int), 0 ≤ n → n ≤ 4 * k + 5 → 0 ≤ l.foldl (pstep rs k) n ∧ l.foldl (pstep rs k) n ≤ 4 * k + 5
  | [], n, h0, h => ⟨h0, h⟩
  | x :: t, n, h0, h => by
    have h1 := partsF_le (decR rs) (fun c => (hG.dec c).1) k x
    have h2 := partsF_pos (decR rs) k x
    rw [List.foldl_cons]
    refine pstep_le hG k t _ ?_ ?_
    · unfold pstep; split <;> omega
    · unfold pstep; split <;> omega
set_option maxHeartbeats 4000000 in
set_option maxRecDepth 100000 in
theorem parts_leaf {rs : List URow} (hG : RowsOk rs) (D gu base : Nat) (c : Int) (w : World) (hc : decR rs c = []) (hDc : w.cell? ⟨D, 0, none⟩ = some (.pointer (some ⟨gu, 0, none⟩))) (hU : UTab w base gu rs) :
    Calls Tryz.prog 61 #[.pointer (some ⟨D, 0, none⟩), .int .i64 c] w fun e w' => e = .returned (.int .i64 1) ∧ Go.RowKit.Below w.heap.size w w' := by
  have HU := Aside0.mk hU
  have hl0 : (rowAt rs c).dec = [] := hc
  have hll := hG.len
  have hd0 : (rowAt rs c).dec.length ≤ 1000000 := by rw [hl0]; exact Nat.zero_le _
  have HD0 := Aside0.mk hd0
  have HL0 := Aside0.mk hl0
  clear hU hc hl0 hd0
  go_enter Tryz.func61, Tryz.ntmps61
  go_wp2_with (go_at_call 17; with_reducible refine (decU_calls base gu rs c _ HU.out (by omega) hG.rise HD0.out).mono ?_; rintro e w5 ⟨v5, rfl, hR5, hB5⟩; rw [HL0.out] at hR5; obtain ⟨A5, c5, rfl⟩ := Kd.R_slice hR5; have H5 := Aside0.mk hB5; clear hR5 hB5)
  go_ret
  exact ⟨rfl, H5.out⟩
set_option maxHeartbeats 4000000 in
set_option maxRecDepth 100000 in
theorem parts_step {rs : List URow} (hG : RowsOk rs) (D gu base k : Nat) (c : Int) (w : World) (hc : decR rs c ≠ []) (hk : k ≤ 1000000) (hDc : w.cell? ⟨D, 0, none⟩ = some (.pointer (some ⟨gu, 0, none⟩))) (hU : UTab w base gu rs)
    (ih : ∀ x ∈ decR rs c, ∀ w', w'.cell? ⟨D, 0, none⟩ = some (.pointer (some ⟨gu, 0, none⟩)) → UTab w' base gu rs → Calls Tryz.prog 61 #[.pointer (some ⟨D, 0, none⟩), .int .i64 x] w' fun e w'' => e = .returned (.int .i64 (partsF (decR rs) k x)) ∧ Go.RowKit.Below w'.heap.size w' w'') :
    Calls Tryz.prog 61 #[.pointer (some ⟨D, 0, none⟩), .int .i64 c] w fun e w' => e = .returned (.int .i64 (partsF (decR rs) (k + 1) c)) ∧ Go.RowKit.Below w.heap.size w w' := by
  have hval : partsF (decR rs) (k + 1) c = (decR rs c).foldl (pstep rs k) 0 := by
    rw [partsF, if_neg (by simpa using hc)]
    rfl
  obtain ⟨PP, hPP⟩ : ∃ PP : Ending → World → Prop, PP = fun e w' => e = .returned (.int .i64 (partsF (decR rs) (k + 1) c)) ∧ Go.RowKit.Below w.heap.size w w' := ⟨_, rfl⟩
  rw [← hPP]
  rw [hval] at hPP
  have HPP := Aside0.mk hPP
  have hll := hG.len
  have HU := Aside0.mk (And.intro hU (And.intro hc (show (rowAt rs c).dec.length ≤ 1000000 from Nat.le_trans (hG.dec c).1 (by decide))))
  have HB := Aside0.mk (fun l n h0 h1 => pstep_le hG k l n h0 h1)
  obtain ⟨l, hl⟩ : ∃ l, l = decR rs c := ⟨_, rfl⟩
  have hl' : (rowAt rs c).dec = l := hl.symm
  have hl2 : l.length ≤ 2 := by rw [hl]; exact (hG.dec c).1
  have hlp : l.length ≠ 0 := by rw [hl]; exact fun h => hc (List.length_eq_zero_iff.1 h)
  rw [← hl] at ih
  have IH := Aside0.mk ih
  have HL := Aside0.mk (And.intro hl hl')
  clear hU hc hval hPP ih hl hl'
  go_enter Tryz.func61, Tryz.ntmps61
  have hlz : ¬ ((l.length : Int) = 0) := by omega
  have hlz2 : ((l.length : Int) == 0) = false := beq_eq_false_iff_ne.2 hlz
  go_wp2_with (go_at_call 17; with_reducible refine (decU_calls base gu rs c _ HU.out.1 (by omega) hG.rise HU.out.2.2).mono ?_; rintro e w5 ⟨v5, rfl, hR5, hB5⟩; rw [HL.out.2] at hR5; obtain ⟨A5, c5, rfl⟩ := Kd.R_slice hR5; have hD5 := cell_up hB5 hDc; have H5 := Aside0.mk (And.intro hR5 hB5); clear hR5 hB5)
  go_loopw [6, 20] (fun nv iv wr => ∃ i : Nat, i ≤ l.length ∧ iv = .int .i64 i ∧ nv = .int .i64 ((l.take i).foldl (pstep rs k) 0) ∧ Go.RowKit.Below w5.heap.size w5 wr) (fun nv iv wr => l.length - (intOf iv).toNat)
  case atStart => exact ⟨0, Nat.zero_le _, rfl, rfl, Go.RowKit.Below.refl _ _⟩
  case round =>
    obtain ⟨i, hi, rfl, rfl, hb⟩ := hrel
    have hcell := cell_up hb hD5
    obtain ⟨n, hn⟩ : ∃ n, n = (l.take i).foldl (pstep rs k) 0 := ⟨_, rfl⟩
    have hnb := HB.out (l.take i) 0 (Int.le_refl 0) (by omega)
    rw [← hn] at hnb ⊢
    have HN := Aside0.mk hn
    by_cases hlt : i < l.length
    · obtain ⟨A9, c9, e9, hc9, hC9⟩ := Kd.R_reads (Kd.R_below H5.out.1 hb)
      injection e9 with e1 e2 e3
      subst e1 e3
      obtain ⟨ad, rfl, hx⟩ := Kd.at_int hC9 (i : Int) (by omega) (by omega)
      rw [Int.toNat_natCast] at hx
      have hltz : (i : Int) < (l.length : Int) := by omega
      obtain ⟨x, hxe⟩ : ∃ x, x = rd l i := ⟨_, rfl⟩
      rw [← hxe] at hx
      have hxm : l[i]? = some x := by rw [hxe]; unfold rd; simp [List.getElem?_eq_getElem hlt]
      have hxin : x ∈ l := List.mem_of_getElem? hxm
      have hp1 := partsF_le (decR rs) (fun c => (hG.dec c).1) k x
      have hp2 := partsF_pos (decR rs) k x
      have hstep : (l.take (i + 1)).foldl (pstep rs k) 0 = pstep rs k n x := by
        rw [List.take_add_one, hxm]
        simp only [Option.toList_some, List.foldl_append, List.foldl_cons, List.foldl_nil]
        rw [← hn]
      obtain ⟨pv, hpv⟩ : ∃ pv, pv = partsF (decR rs) k x := ⟨_, rfl⟩
      rw [← hpv] at hp1 hp2
      have HX := Aside0.mk (And.intro hstep (And.intro (IH.out x hxin) (And.intro ((HU.out.1.below H5.out.2).below hb) (And.intro hb (And.intro hpv hxm)))))
      clear hstep hxm hxin hxe hC9 hb hpv hn
      by_cases h4 : n ≤ 4
      · have h4d : decide (n ≤ 4) = true := decide_eq_true h4
        go_wp2_with (go_at_call 61; with_reducible refine (HX.out.2.1 _ hcell HX.out.2.2.1).mono ?_; rw [← HX.out.2.2.2.2.1]; rintro e w6 ⟨rfl, hB6⟩; have H6 := Aside0.mk hB6; clear hB6)
        refine ⟨⟨i + 1, by omega, by go_num, ?_, HX.out.2.2.2.1.trans (H6.out.mono HX.out.2.2.2.1.size)⟩, by simp [intOf]; omega⟩
        rw [HX.out.1]
        unfold pstep
        rw [if_pos h4, ← HX.out.2.2.2.2.1]
      · have h4d : decide (n ≤ 4) = false := decide_eq_false h4
        go_wp2
        refine ⟨⟨i + 1, by omega, by go_num, ?_, HX.out.2.2.2.1⟩, by simp [intOf]; omega⟩
        rw [HX.out.1]
        unfold pstep
        rw [if_neg h4]
    · have hltz : ¬ (i : Int) < (l.length : Int) := by omega
      have hil : i = l.length := by omega
      have HE := Aside0.mk hb
      clear hb hn
      go_wp2
      show PP (.returned (.int .i64 n)) _
      rw [HPP.out]
      refine ⟨?_, H5.out.2.trans (HE.out.mono H5.out.2.size)⟩
      rw [HN.out, List.take_of_length_le (by omega), HL.out.1]
theorem parts_calls {rs : List URow} (hG : RowsOk rs) (D gu base : Nat) : ∀ (l : List Int), TopoN (decR rs) l → ∀ (k : Nat) (c : Int) (w : World), (decR rs c = [] ∨ c ∈ l) → l.length ≤ k → k ≤ 1000000 → w.cell? ⟨D, 0, none⟩ = some (.pointer (some ⟨gu, 0, none⟩)) → UTab w base gu rs →
    Calls Tryz.prog 61 #[.pointer (some ⟨D, 0, none⟩), .int .i64 c] w fun e w' => e = .returned (.int .i64 (partsF (decR rs) k c)) ∧ Go.RowKit.Below w.heap.size w w'
  | [], _, k, c, w, hc, hk, hk2, hD, hU => by
    rcases hc with h | h
    · rw [partsF_leaf _ h]; exact parts_leaf hG D gu base c w h hD hU
    · cases h
  | a :: l, hT, k, c, w, hc, hk, hk2, hD, hU => by
    by_cases h : decR rs c = []
    · rw [partsF_leaf _ h]; exact parts_leaf hG D gu base c w h hD hU
    · rw [List.length_cons] at hk
      by_cases hl : c ∈ l
      · exact parts_calls hG D gu base l hT.2 k c w (.inr hl) (by omega) hk2 hD hU
      · have hac : c = a := by
          rcases hc with h2 | h2
          · exact absurd h2 h
          · rcases List.mem_cons.1 h2 with h2 | h2
            · exact h2
            · exact absurd h2 hl
        subst hac
        obtain ⟨k, rfl⟩ : ∃ j, k = j + 1 := ⟨k - 1, by omega⟩
        exact parts_step hG D gu base k c w h (by omega) hD hU (fun x hx w' hD' hU' => parts_calls hG D gu base l hT.2 k x w' (hT.1 x hx) (by omega) (by omega) hD' hU')
end Go.Proofs.YtebgebgkieglhaaGreatDoor.FieldW
end
section
/- data: long. -/
namespace Go.Proofs.YtebgebgkieglhaaGreatDoor.FieldW
open Go.RowKit Go.Shelf Go.Lib Go.Proofs Go.Proofs.YtebgebgkieglhaaGreatDoorW.PrintWords Go.Proofs.YtebgebgkieglhaaGreatDoorW.PrintLast Go.Proofs.YtebgebgkieglhaaGreatDoorW.PrintMore Go.Proofs.YtebgebgkieglhaaGreatDoor.PRef
set_option linter.unusedVariables false
set_option linter.unusedSimpArgs false
attribute [local go_sem] Oper.semAt_some


/-- Does some row's full decomposition have too many? -/
def longS (rs : List URow) : Bool := rs.any (fun r => !r.dec.isEmpty && decide (4 < partsF (decR rs) (rs.length + 1) r.first))
/-- The ones done that have a decomposition, as parts walks them. -/
theorem DoneOk.thin {rs : List URow} (hG : RowsOk rs) {dl : List Int} (h : DoneOk rs dl) (hall : ∀ r ∈ rs, r.dec ≠ [] → r.first ∈ dl) (hrow : ∀ r ∈ rs, r.dec ≠ [] → rowAt rs r.first = r) :
    ∃ l, TopoN (decR rs) l ∧ l.length ≤ rs.length + 1 ∧ ∀ r ∈ rs, r.dec ≠ [] → r.first ∈ l := by
  refine ⟨dl.filter (fun c => !(decR rs c).isEmpty), Topo.thin h.topo, ?_, fun r hr hne => ?_⟩
  · have := pigeons (m := rs.map URow.first) (h.nodup.filter (fun c => !(decR rs c).isEmpty)) (fun o ho => by
      rw [List.mem_filter] at ho
      obtain ⟨r, hr, _, h1, _⟩ := decR_some hG.one (rs := rs) (c := o) (by simpa using ho.2)
      rw [List.mem_map]
      exact ⟨r, hr, h1⟩)
    rw [List.length_map] at this
    omega
  · rw [List.mem_filter]
    refine ⟨hall r hr hne, ?_⟩
    unfold decR
    rw [hrow r hr hne]
    simpa using hne
/-- The row of a row's first code point is that row. -/
theorem rowAt_first {rs : List URow} (hS : RisingR rs) {r : URow} (hr : r ∈ rs) {c : Int} (h1 : r.first ≤ c) (h2 : c ≤ r.last) : rowAt rs c = r := by
  obtain ⟨i, hi, he⟩ := List.getElem_of_mem hr
  have ha : ahead (cfR c) rs = i := by
    refine ahead_of _ rs i (Nat.le_of_lt hi) (fun j h hj => ?_) (fun j h hj => ?_)
    · rw [cfR_neg]
      have := (List.pairwise_iff_getElem.1 hS.1) j i h hi hj
      rw [he] at this
      omega
    · rw [cfR_neg]
      rcases Nat.lt_or_ge i j with hij | hij
      · have := (List.pairwise_iff_getElem.1 hS.1) i j hi h hij
        have h3 := hS.2 rs[j] (List.getElem_mem h)
        rw [he] at this
        omega
      · have : j = i := by omega
        subst this
        rw [he]; omega
  have hq : rs[ahead (cfR c) rs]? = some r := by rw [ha, List.getElem?_eq_getElem hi, he]
  unfold rowAt there
  rw [hq]
  have hz : cfR c r = 0 := by unfold cfR; rw [if_neg (by omega), if_neg (by omega)]
  rw [List.getD_eq_getElem?_getD, hq]
  show (if (cfR c r == 0) = true then _ else _) = r
  rw [hz]
  rfl
def lngI (rs : List URow) (D : Nat) (w : World) (pre : List URow) (W : World) : Prop :=
  (pre.any (fun r => !r.dec.isEmpty && decide (4 < partsF (decR rs) (rs.length + 1) r.first))) = false ∧ W.heap[w.heap.size]? = some (.cells #[.pointer (some ⟨D, 0, none⟩)] 27 (0, 0)) ∧ W.heap[w.heap.size + 1]? = some (.cells #[.bool false] 4 (0, 0)) ∧ Go.RowKit.Below w.heap.size w W ∧ w.heap.size + 3 ≤ W.heap.size
theorem lngI_stay (rs : List URow) (D : Nat) (w : World) : StayI (w.heap.size + 3) (lngI rs D w) := by
  rintro pre A B ⟨h1, h2, h3, h4, h5⟩ hb
  have hs := hb.size
  exact ⟨h1, (hb.block _ (by omega)).trans h2, (hb.block _ (by omega)).trans h3, h4.trans (hb.mono (by omega)), by omega⟩
def lngX (rs : List URow) (w : World) (c : Code) (pre : List URow) (W : World) : Prop :=
  c = .ret ∧ (pre.any (fun r => !r.dec.isEmpty && decide (4 < partsF (decR rs) (rs.length + 1) r.first))) = true ∧ W.heap[w.heap.size + 1]? = some (.cells #[.bool true] 4 (0, 0)) ∧ Go.RowKit.Below w.heap.size w W
theorem lngX_stay (rs : List URow) (w : World) (c : Code) : StayI (w.heap.size + 3) (lngX rs w c) := by
  rintro pre A B ⟨h1, h2, h3, h4⟩ hb
  exact ⟨h1, h2, (hb.block _ (by omega)).trans h3, h4.trans (hb.mono (by omega))⟩
set_option maxHeartbeats 4000000 in
set_option maxRecDepth 100000 in
theorem long_calls {rs : List URow} (hG : RowsOk rs) (D gu base : Nat) (l : List Int) (hT : TopoN (decR rs) l) (hl : l.length ≤ rs.length + 1) (hall : ∀ r ∈ rs, r.dec ≠ [] → r.first ∈ l) (w : World) (hDc : w.cell? ⟨D, 0, none⟩ = some (.pointer (some ⟨gu, 0, none⟩))) (hU : UTab w base gu rs) :
    Calls Tryz.prog 38 #[.pointer (some ⟨D, 0, none⟩)] w fun e w' => e = .returned (.bool (longS rs)) ∧ Go.RowKit.Below w.heap.size w w' := by
  have HU := Aside0.mk hU
  have HT := Aside0.mk (And.intro hT (And.intro hl hall))
  have hDl := World.block_lt_of_cell? w _ hDc
  obtain ⟨PP, hPP⟩ : ∃ PP : Ending → World → Prop, PP = fun e w' => e = .returned (.bool (longS rs)) ∧ Go.RowKit.Below w.heap.size w w' := ⟨_, rfl⟩
  rw [← hPP]
  have HPP := Aside0.mk hPP
  clear hU hPP hT hl hall
  refine (callsIn_wide (n := 4)).1 ?_
  refine callsIn_of_wp_marks Tryz.func38 rfl trivial ?_ rfl
  simp only [Tryz.ntmps38, List.size_toArray, List.length_cons, List.length_nil, Nat.reduceAdd, Nat.reduceSub, Array.replicate_succ, Array.replicate_zero, List.push_toArray, List.append_toArray, List.nil_append, List.cons_append]
  refine wpIn_wide.2 ?_
  have hcu : ∀ (W : World), Go.RowKit.Below w.heap.size w W → W.cell? ⟨D, 0, none⟩ = some (.pointer (some ⟨gu, 0, none⟩)) := fun W hb => (hb.cell (p := ⟨D, 0, none⟩) hDl).trans hDc
  have HCU := Aside0.mk hcu
  clear hcu
  have hc6 : ∀ (o1 o2 : Obj), ((w.alloc o1).alloc o2).cell? ⟨D, 0, none⟩ = some (.pointer (some ⟨gu, 0, none⟩)) := fun o1 o2 => HCU.out _ (below_alloc (below_alloc (Go.RowKit.Below.refl _ _) _) _)
  go_wp2_with (go_at_call 11; refine Aside0.out ?_)
  refine Aside0.mk ?_
  obtain ⟨W6, hW6⟩ : ∃ W6, W6 = ((w.alloc (.cells #[.pointer (some ⟨D, 0, none⟩)] 27)).alloc (.cells #[.bool false] 4)) := ⟨_, rfl⟩
  rw [← hW6]
  have up : ∀ (W : World) (o : Obj) (k : Nat) (u : Obj), W.heap[k]? = some u → (W.alloc o).heap[k]? = some u := fun W o k u h => (Go.RowKit.Below.heap_alloc _ _ _ (Array.getElem?_eq_some_iff.1 h).1).trans h
  have nw : ∀ (W : World) (o : Obj) (k : Nat), k = W.heap.size → (W.alloc o).heap[k]? = some (match o with | .cells cs ty sh => .cells cs ty sh | o => o) := fun W o k h => by subst h; rw [heap_alloc_new]; cases o <;> rfl
  have q0 : W6.heap[w.heap.size]? = some (.cells #[.pointer (some ⟨D, 0, none⟩)] 27 (0, 0)) := by rw [hW6]; exact up _ _ _ _ (nw _ _ _ rfl)
  have q1 : W6.heap[w.heap.size + 1]? = some (.cells #[.bool false] 4 (0, 0)) := by rw [hW6]; exact nw _ _ _ (by simp)
  have hs6 : W6.heap.size = w.heap.size + 2 := by rw [hW6]; simp
  have hb6 : Go.RowKit.Below w.heap.size w W6 := by rw [hW6]; exact below_alloc (below_alloc (Go.RowKit.Below.refl _ _) _) _
  refine (rows_calls gu W6).mono ?_
  rintro e Wr ⟨rfl, hWr⟩
  rw [hs6]
  have hb7 : Go.RowKit.Below w.heap.size w Wr := by rw [hWr]; exact below_alloc hb6 _
  have hs7 : Wr.heap.size = w.heap.size + 3 := by rw [hWr]; simp [hs6]
  have hbx : Wr.heap[w.heap.size + 2]? = some (.cells #[.pointer (some ⟨gu, 0, none⟩)] 35 (0, 0)) := by rw [hWr, ← hs6]; exact heap_alloc_new _ _
  have h67 : Go.RowKit.Below W6.heap.size W6 Wr := by rw [hWr]; exact below_alloc (Go.RowKit.Below.refl _ _) _
  have hinv : lngI rs D w [] Wr := ⟨rfl, (h67.block _ (by omega)).trans q0, (h67.block _ (by omega)).trans q1, hb7, by omega⟩
  have HI := Aside0.mk (And.intro hinv (And.intro hbx (And.intro hb7 hs7)))
  clear hW6 up nw q0 q1 hs6 hb6 hWr hb7 hs7 hbx h67 hinv hc6
  go_wp2
  refine (wpIn_wide (n := 4)).1 ?_
  refine rows_range (w0 := w) (base := base) (gu := gu) (n0 := w.heap.size) (Bx := w.heap.size + 2) (rs := rs) rfl HI.out.2.1 HU.out HI.out.2.2.1 HI.out.2.2.1.size (Nat.le_trans hG.len (by decide)) (fun r hr => Nat.le_trans (hG.good r hr).2.2.2.1 (by decide)) rfl
    (fun x Lv v => { tmps := #[.pointer (some ⟨D, 0, none⟩), .pointer (some ⟨w.heap.size, 0, none⟩), .pointer (some ⟨w.heap.size + 1, 0, none⟩), .pointer (some ⟨Lv, 0, none⟩), .pointer (some ⟨D, 0, none⟩), .pointer (some ⟨D, 0, none⟩), .pointer (some ⟨D, 0, none⟩), .pointer (some ⟨gu, 0, none⟩), .func (.func 40) #[] #[.pointer (some ⟨w.heap.size + 2, 0, none⟩)], .agg (rowC x v), undef, undef, undef, undef, undef, undef, undef, undef, undef, undef, undef], defers := [] })
    (lngI rs D w) (lngX rs w) (HI.out.2.2.2 ▸ lngI_stay rs D w) (fun c => HI.out.2.2.2 ▸ lngX_stay rs w c) HI.out.1 ?assign ?body ?done ?stop
  case assign =>
    intro l x A c W Kc h
    unfold rowC at h ⊢
    gi_wp2
    exact h
  case body =>
    rintro lp Z pre x r Lv v W hI hx hL hLv hR hW hZ hK
    obtain ⟨A5, c5, rfl⟩ := Kd.R_slice hR
    obtain ⟨i1, i3, i4, i9, i10⟩ := hI
    have hxm : x ∈ rs := by rw [hx]; simp
    have y0 : W.cell? ⟨w.heap.size, 0, none⟩ = some _ := (blk_cell i3 0).trans rfl
    have y1 : W.cell? ⟨w.heap.size + 1, 0, none⟩ = some _ := (blk_cell i4 0).trans rfl
    have z1 := blk_frozen i4 0
    have l0 : W.cell? ⟨Lv, 0, none⟩ = some (.int .i64 x.first) := (blk_cell hL 0).trans rfl
    have l5 : W.cell? ⟨Lv, 5, none⟩ = some (.slice A5 x.dec.length c5) := (blk_cell hL 5).trans rfl
    unfold rowC
    have hgx := hG.good x hxm
    have hdl2 : x.dec.length ≤ 2 := hgx.2.2.2.1
    have HX := Aside0.mk (And.intro hx (And.intro hxm (And.intro hgx (And.intro hZ (And.intro hK hW)))))
    have HJ := Aside0.mk (And.intro i1 (And.intro i3 (And.intro i4 (And.intro i9 i10))))
    clear hx hxm hgx hZ hK hW i1 i3 i4 i9 i10 hR hL
    by_cases hd : x.dec = []
    · gi_wp2_with (refine ⟨trivial, ?_⟩)
      obtain ⟨i1, i3, i4, i9, i10⟩ := HJ.out
      refine rI_next HX.out.2.2.2.1 HX.out.2.2.2.2.1 HX.out.2.2.2.2.2 (fun b _ _ => rfl) (Go.RowKit.Below.refl _ _) ⟨?_, i3, i4, i9, i10⟩
      rw [List.any_append, i1]
      simp [hd]
    · have hlz : (x.dec.length : Int) > 0 := by have := List.length_pos_iff.2 hd; omega
      have hdz : decide ((x.dec.length : Int) > 0) = true := decide_eq_true hlz
      have CT := parts_calls hG D gu base l HT.out.1 (rs.length + 1) x.first W (.inr (HT.out.2.2 x HX.out.2.1 hd)) HT.out.2.1 (by have := hG.len; omega) (HCU.out _ HJ.out.2.2.2.1) (HU.out.below HJ.out.2.2.2.1)
      obtain ⟨pv, hpv⟩ : ∃ pv, pv = partsF (decR rs) (rs.length + 1) x.first := ⟨_, rfl⟩
      rw [← hpv] at CT
      have HCT := Aside0.mk (And.intro CT hpv)
      clear CT hpv
      by_cases h4 : 4 < pv
      · have h4d : decide (pv > 4) = true := decide_eq_true h4
        gi_wp2_with (first
          | (refine ⟨trivial, ?_⟩; gi_at_call 61; refine (CallsIn.inRound lp (callsIn_wide.2 HCT.out.1)).mono ?_; rintro e w6 ⟨rfl, hb6⟩; have k4 := (hb6.block _ (blk_lt HJ.out.2.2.1)).trans HJ.out.2.2.1; have y6 : w6.cell? ⟨w.heap.size + 1, 0, none⟩ = some _ := (blk_cell k4 0).trans rfl; have z6 := blk_frozen k4 0; have H6 := Aside0.mk hb6; clear hb6))
        obtain ⟨i1, i3, i4, i9, i10⟩ := HJ.out
        have hb6 := H6.out
        have hbw : Go.RowKit.Below w.heap.size W w6 := hb6.mono i9.size
        refine rI_leave HX.out.2.2.2.1 HX.out.2.2.2.2.1 (fun b hb hk => ?_) ⟨rfl, ?_, ?_, ?_⟩
        · have hne : b ≠ w.heap.size + 1 := by
            have := HI.out.2.2.2
            rcases hk with hk | hk | hk <;> omega
          exact (Go.RowKit.Below.heap_setCell w6 ⟨w.heap.size + 1, 0, none⟩ _ b hne).trans (hb6.block b hb)
        · rw [List.any_append]
          simp [← HCT.out.2, h4, hd]
        · exact blk_set ((hb6.block _ (blk_lt i4)).trans i4) 0 _
        · exact i9.trans (hbw.setCell (p := ⟨w.heap.size + 1, 0, none⟩) (by show w.heap.size ≤ w.heap.size + 1; omega) _)
      · have h4d : decide (pv > 4) = false := decide_eq_false h4
        gi_wp2_with (first
          | (refine ⟨trivial, ?_⟩; gi_at_call 61; refine (CallsIn.inRound lp (callsIn_wide.2 HCT.out.1)).mono ?_; rintro e w6 ⟨rfl, hb6⟩; have H6 := Aside0.mk hb6; clear hb6))
        obtain ⟨i1, i3, i4, i9, i10⟩ := HJ.out
        have hb6 := H6.out
        have hbw : Go.RowKit.Below w.heap.size W w6 := hb6.mono i9.size
        refine rI_next HX.out.2.2.2.1 HX.out.2.2.2.2.1 HX.out.2.2.2.2.2 (fun b hb _ => hb6.block b hb) hbw ⟨?_, (hb6.block _ (blk_lt i3)).trans i3, (hb6.block _ (blk_lt i4)).trans i4, i9.trans hbw, by have := hb6.size; omega⟩
        rw [List.any_append, i1]
        simp [← HCT.out.2]
        intro _
        omega
  case done =>
    rintro W ⟨i1, i3, i4, i9, i10⟩ hW hDf
    have y1 : W.cell? ⟨w.heap.size + 1, 0, none⟩ = some _ := (blk_cell i4 0).trans rfl
    have z1 := blk_frozen i4 0
    have HJ := Aside0.mk (And.intro i1 (And.intro i4 (And.intro i9 hDf)))
    clear i1 i3 i4 i9 hDf
    gi_wp2
    go_wp2
    obtain ⟨i1, i4, i9, hDf⟩ := HJ.out
    obtain ⟨W8, hW8⟩ : ∃ W8, W8 = W.setCell ⟨w.heap.size + 1, 0, none⟩ (.bool false) := ⟨_, rfl⟩
    rw [← hW8]
    have hs7 := HI.out.2.2.2
    have hD8 : W8.heap[Wr.heap.size]? = some (.deferred (some [])) := by rw [hW8]; exact (Go.RowKit.Below.heap_setCell W ⟨w.heap.size + 1, 0, none⟩ _ _ (by show Wr.heap.size ≠ w.heap.size + 1; omega)).trans hDf
    have h8 : W8.heap[w.heap.size + 1]? = some (.cells #[.bool false] 4 (0, 0)) := by rw [hW8]; exact blk_set i4 0 _
    have b8 : Go.RowKit.Below w.heap.size w W8 := by rw [hW8]; exact i9.setCell (p := ⟨w.heap.size + 1, 0, none⟩) (by show w.heap.size ≤ w.heap.size + 1; omega) _
    refine ⟨by simp, .inl ⟨_, _, rfl, run_takeDeferred hD8, ?_⟩⟩
    refine ⟨_, results_bool rfl _ _ ⟨w.heap.size + 1, 0, none⟩ false rfl ?_, ?_⟩
    · exact (blk_cell ((World.putObj_heap_other (by omega)).trans h8) 0).trans rfl
    · rw [HPP.out]
      exact ⟨by unfold longS; rw [i1], b8.trans (below_put W8 Wr.heap.size w.heap.size _ (by omega))⟩
  case stop =>
    rintro c pre x r W hx ⟨rfl, hcy, hres, hb⟩ hDf
    have hs7 := HI.out.2.2.2
    gi_wp2
    go_wp2
    refine ⟨by simp, .inl ⟨_, _, rfl, run_takeDeferred hDf, ?_⟩⟩
    refine ⟨_, results_bool rfl _ _ ⟨w.heap.size + 1, 0, none⟩ true rfl ?_, ?_⟩
    · exact (blk_cell ((World.putObj_heap_other (by omega)).trans hres) 0).trans rfl
    · rw [HPP.out]
      refine ⟨?_, hb.trans (below_put W Wr.heap.size w.heap.size _ (by omega))⟩
      have hq : longS rs = true := by
        unfold longS
        rw [List.any_eq_true] at hcy ⊢
        obtain ⟨y, hy, hp⟩ := hcy
        refine ⟨y, ?_, hp⟩
        rw [hx]
        rcases List.mem_append.1 hy with hy | hy
        · exact List.mem_append_left _ hy
        · rw [List.mem_singleton] at hy; subst hy; simp
      rw [hq]
end Go.Proofs.YtebgebgkieglhaaGreatDoor.FieldW
end
section
/- data: maps of pairs; Excluded, Makes, Unicode. -/
namespace Go.Proofs.YtebgebgkieglhaaGreatDoor.FieldW
open Go.RowKit Go.Shelf Go.Lib Go.Proofs Go.Proofs.YtebgebgkieglhaaGreatDoorW.PrintWords Go.Proofs.YtebgebgkieglhaaGreatDoorW.PrintLast Go.Proofs.YtebgebgkieglhaaGreatDoorW.PrintMore Go.Proofs.YtebgebgkieglhaaGreatDoor.PRef
set_option linter.unusedVariables false
set_option linter.unusedSimpArgs false
open Go Go.Maps
attribute [local go_sem] Oper.semAt_some


/-- A pair's key. -/
def pairEnc (p : Int × Int) : Value := .agg #[.int .i64 p.1, .int .i64 p.2]
def pairOk (p : Int × Int) : Prop := intOk p.1 ∧ intOk p.2
theorem pairInj (x y : Int × Int) (_ : pairOk x) (_ : pairOk y) (h : pairEnc x = pairEnc y) : x = y := by
  unfold pairEnc at h
  injection h with h
  have h := congrArg Array.toList h
  injection h with h1 h2
  injection h2 with h2 _
  injection h1 with _ h1
  injection h2 with _ h2
  exact Prod.ext h1 h2
theorem laidOutZ : laidOutB Tryz.prog = true := by kernel_rfl
theorem sizeZ : 79 < Tryz.prog.types.size := of_decide_eq_true (by kernel_rfl)
theorem keyAtZ : Tryz.prog.keyTypeAt 5 79 = true := by kernel_rfl
theorem keyTyZ : Tryz.prog.keyType 79 = true := by kernel_rfl
theorem cells79 : Tryz.prog.cellsOf 79 = 2 := by kernel_rfl
theorem cells3 : Tryz.prog.cellsOf 3 = 1 := by kernel_rfl
theorem pair_keyed : Keyed Tryz.prog 79 := Keyed.of_law (deep_law_laid laidOutZ (m := 5) (by decide) sizeZ keyAtZ (by rw [Tryz.underlying79]))
theorem pairKey {p : Int × Int} (h : pairOk p) : ∃ kl, keyOf Tryz.prog 79 (pairEnc p) = some kl := by
  obtain ⟨h1, h2⟩ := h
  unfold intOk at h1 h2
  obtain ⟨d, hd⟩ : ∃ d, Tryz.prog.types.size = d + 1 := ⟨Tryz.prog.types.size - 1, by have := sizeZ; omega⟩
  have hf : (pairEnc p).formed Tryz.prog 79 = true := by
    unfold pairEnc Value.formed
    rw [Tryz.underlying79, cells79]
    rfl
  have hk : Tryz.prog.keyLits (Tryz.prog.types.size + 1) 79 (pairEnc p).cells.toList = some [.int .i64 p.1, .int .i64 p.2] := by
    rw [hd]
    have e3 : ∀ n : Int, (Lit.int .i64 n).wf = true → Tryz.prog.keyLits (d + 1) 3 [.int .i64 n] = some [.int .i64 n] := fun n hn => by
      unfold Program.keyLits
      rw [Tryz.underlying3]
      simp [hn]
    unfold Program.keyLits
    rw [Tryz.underlying79]
    have hc : (pairEnc p).cells.toList = [.int .i64 p.1, .int .i64 p.2] := rfl
    rw [hc]
    simp [cells79, cells3, e3 _ h1, e3 _ h2]
  unfold keyOf
  rw [Tryz.underlying79]
  dsimp only
  rw [if_pos (by rw [keyTyZ, hf]; rfl), hk]
  exact ⟨_, rfl⟩
/-- The elements of a map of these pairs. -/
def lookP (l : List ((Int × Int) × Int)) (p : Int × Int) : Option Int := (l.find? (fun x => x.1 == p)).map Prod.snd
def prF (l : List ((Int × Int) × Int)) : Int × Int → Option Value := fun p => (lookP l p).map (fun x => .int .i64 x)
theorem lookP_snoc {l : List ((Int × Int) × Int)} {p : Int × Int} {c : Int} (h : lookP l p = none) : updF (prF l) p (some (.int .i64 c)) = prF (l ++ [(p, c)]) := by
  funext q
  unfold updF prF lookP
  rw [List.find?_append]
  by_cases e : q = p
  · subst e
    have h2 : l.find? (fun x => x.1 == q) = none := by
      unfold lookP at h
      cases hq : l.find? (fun x => x.1 == q) with
      | none => rfl
      | some y => rw [hq] at h; cases h
    rw [h2]
    simp
  · have h2 : [(p, c)].find? (fun x => x.1 == q) = none := by
      simp
      exact fun h1 => e h1.symm
    rw [if_neg e, h2]
    cases l.find? (fun x => x.1 == q) <;> rfl
/-- A map of these pairs. -/
def PairIs (w : World) (b : Nat) (l : List ((Int × Int) × Int)) : Prop := MapIs pairEnc pairOk Tryz.prog 79 w b l.length (prF l) l.length
theorem PairIs.made (w : World) : PairIs (w.alloc (.map #[] 0)) w.heap.size [] := by
  have h := MapIs.made (enc := pairEnc) (okk := pairOk) (P := Tryz.prog) (k := 79) w
  have e : (fun _ => none : Int × Int → Option Value) = prF [] := by funext y; rfl
  rw [e] at h
  exact h
theorem zero3Z (w : World) : (zeroValue 3).run Tryz.prog w = .ok (.int .i64 0) w := by kernel_rfl
/-- Is a code point excluded from composition? -/
def exS (l : List USpan) (c : Int) : Bool := (valS l c).data.toList == exB.data.toList
set_option maxHeartbeats 4000000 in
set_option maxRecDepth 100000 in
theorem excl_calls (D g base : Nat) (l : List USpan) (c : Int) (w : World) (hD : w.cell? ⟨D, 1, none⟩ = some (.pointer (some ⟨g, 0, none⟩))) (hT : STab w base g l) (hlen : l.length ≤ 1000000000) (hS : RisingS l) :
    Calls Tryz.prog 14 #[.pointer (some ⟨D, 0, none⟩), .int .i64 c] w fun e w' => e = .returned (.bool (exS l c)) ∧ Go.RowKit.Below w.heap.size w w' := by
  have HT := Aside0.mk (has_calls base g l c ⟨#[70, 117, 108, 108, 95, 67, 111, 109, 112, 111, 115, 105, 116, 105, 111, 110, 95, 69, 120, 99, 108, 117, 115, 105, 111, 110]⟩ w hT hlen hS (by simp))
  clear hT hlen hS
  go_enter Tryz.func14, Tryz.ntmps14
  go_wp2_with (go_at_call 43; with_reducible refine HT.out.mono ?_; rintro e w2 ⟨rfl, hg2⟩; have G2 := Aside0.mk hg2; clear hg2)
  go_ret
  exact ⟨rfl, G2.out⟩
set_option maxHeartbeats 4000000 in
set_option maxRecDepth 100000 in
theorem unicode_calls (D gu : Nat) (w : World) (hD : w.cell? ⟨D, 0, none⟩ = some (.pointer (some ⟨gu, 0, none⟩))) :
    Calls Tryz.prog 10 #[.pointer (some ⟨D, 0, none⟩)] w fun e w' => e = .returned (.pointer (some ⟨gu, 0, none⟩)) ∧ w' = w := by
  go_enter Tryz.func10, Tryz.ntmps10
  go_wp2
  go_ret
  exact ⟨rfl, rfl⟩
set_option maxHeartbeats 4000000 in
set_option maxRecDepth 100000 in
theorem makes_calls (D Bm : Nat) (l : List ((Int × Int) × Int)) (a b : Int) (w : World) (hD : w.cell? ⟨D, 7, none⟩ = some (.map (some Bm))) (hM : PairIs w Bm l) (hk : pairOk (a, b)) :
    Calls Tryz.prog 13 #[.pointer (some ⟨D, 0, none⟩), .int .i64 a, .int .i64 b] w fun e w' => e = .returned (.tuple #[.int .i64 ((lookP l (a, b)).getD 0), .bool (lookP l (a, b)).isSome]) ∧ w' = w := by
  have HM := Aside0.mk (And.intro hM hk)
  have HV := Aside0.mk (show (prF l (a, b)).getD (.int .i64 0) = .int .i64 ((lookP l (a, b)).getD 0) ∧ (prF l (a, b)).isSome = (lookP l (a, b)).isSome by unfold prF; cases lookP l (a, b) <;> exact ⟨rfl, rfl⟩)
  clear hM hk
  obtain ⟨v, hv⟩ : ∃ v, v = (lookP l (a, b)).getD 0 := ⟨_, rfl⟩
  obtain ⟨ok, hok⟩ : ∃ ok, ok = (lookP l (a, b)).isSome := ⟨_, rfl⟩
  rw [← hv, ← hok] at HV ⊢
  clear hv hok
  obtain ⟨kl, hkl⟩ := pairKey HM.out.2
  have HKL := Aside0.mk hkl
  clear hkl
  go_enter Tryz.func13, Tryz.ntmps13
  go_wp2_with (at_lookup; refine wpList_look _ rfl _ _ 70 rfl 79 3 pair_keyed Tryz.underlying70 (zero3Z _) _ _ _ _ HM.out.1 (a, b) HM.out.2 HKL.out rfl rfl ?_; rw [HV.out.1, HV.out.2])
  go_ret2
  exact ⟨rfl, rfl⟩
end Go.Proofs.YtebgebgkieglhaaGreatDoor.FieldW
end
section
/- A region in a round that only reads, and whose callees may lay blocks: walked once. -/
namespace Go.Proofs.YtebgebgkieglhaaGreatDoor.FieldW
open Go.RowKit Go.Shelf Go.Lib Go.Proofs Go.Proofs.YtebgebgkieglhaaGreatDoorW.PrintWords Go.Proofs.YtebgebgkieglhaaGreatDoorW.PrintLast Go.Proofs.YtebgebgkieglhaaGreatDoorW.PrintMore Go.Proofs.YtebgebgkieglhaaGreatDoor.PRef
set_option linter.unusedVariables false
set_option linter.unusedSimpArgs false
open Go


theorem wpIn_round_quiet_below {lr n : Nat} {P : Program} {id : Nat} {Q : Exit → Act → World → Prop} {a : Act} {w : World} {l : List Oper} (hm : P.follows .mixedOrders = true) (hd : noDefer l.toArray = true) (hQ : ¬ LetsOut Q) (hB : Region.lexB .any l.toArray = true)
    (h : wpQuiet P l.toArray (fun w' => ∃ p : Regrown, w' = Sort.grow (redrawn w p.d) p.os) (fun a' => ∀ w', (∃ p : Regrown, w' = Sort.grow (redrawn w p.d) p.os) → Q .normal a' w') l a) : (Code.region id l.toArray true).wpIn (Fence.wide.inRound lr) n P Q a w := by
  simp only [Region.lexB, Bool.and_eq_true] at hB
  refine wpIn_region_any hm (wpAnyIn_of (noDefer_spec hd) hQ _ _ _ _ (wpAny_of_quiet (C := fun w' => ∃ p : Regrown, w' = Sort.grow (redrawn w p.d) p.os) (Q := fun a' => ∀ w', (∃ p : Regrown, w' = Sort.grow (redrawn w p.d) p.os) → Q .normal a' w') (fun _ w' hw' h => h w' hw') _ _ _ _ ⟨⟨w.drawn + 1, #[]⟩, by rw [Sort.grow_empty]; rfl⟩ ?_))
  have := wpAnyQ_lex (C := fun w' => ∃ p : Regrown, w' = Sort.grow (redrawn w p.d) p.os) (md := .any) hB.1 l 0 (Array.replicate l.toArray.size false) a (by simp) (by simpa using hB.2) h
  simpa using this
end Go.Proofs.YtebgebgkieglhaaGreatDoor.FieldW
end
