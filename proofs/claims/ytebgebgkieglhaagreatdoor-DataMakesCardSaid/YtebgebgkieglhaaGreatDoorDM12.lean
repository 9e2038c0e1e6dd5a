/- DatO, DatQ, OpenKd. -/
import Derived.Test.YtebgebgkieglhaaGreatDoorDM3
import Derived.Test.YtebgebgkieglhaaGreatDoorDM11
import Derived.Lib.SlBytesConst
import Derived.WalkKit
import Derived.ProofKit
import Derived.OpenShut
import Derived.ShutString
import Derived.ChangeOld
import Derived.Below
import Derived.Carry
import Derived.SizedLaws
import Derived.ChangeArms
import Derived.ChangeSlices
section
/- data: Small, Status; the document's example. -/
namespace Go.Proofs.YtebgebgkieglhaaGreatDoor.FieldW
open Go.RowKit Go.Shelf Go.Lib Go.Proofs Go.Proofs.YtebgebgkieglhaaGreatDoorW.PrintWords Go.Proofs.YtebgebgkieglhaaGreatDoorW.PrintLast Go.Proofs.YtebgebgkieglhaaGreatDoorW.PrintMore Go.Proofs.YtebgebgkieglhaaGreatDoor.PRef
set_option linter.unusedVariables false
set_option linter.unusedSimpArgs false
open Go Go.Maps Go.Lib
set_option maxRecDepth 100000
attribute [local go_sem] Oper.semAt_some


def smallS (b : Bun) : Bool := decide (b.uni.length + b.exc.length + b.ign.length + b.idn.length + b.scr.length + b.joi.length + b.con.length ≤ 3000)
set_option maxHeartbeats 4000000 in
set_option maxRecDepth 100000 in
theorem small_calls (A0 A1 A2 A3 A4 A5 A6 : Option Addr) (c0 c1 c2 c3 c4 c5 c6 : Nat) (b : Bun) (w : World) (hm : b.uni.length ≤ 281474976710656 ∧ b.exc.length ≤ 281474976710656 ∧ b.ign.length ≤ 281474976710656 ∧ b.idn.length ≤ 281474976710656 ∧ b.scr.length ≤ 281474976710656 ∧ b.joi.length ≤ 281474976710656 ∧ b.con.length ≤ 281474976710656) :
    Calls Tryz.prog 8 #[.agg #[.slice A0 b.uni.length c0, .slice A1 b.exc.length c1, .slice A2 b.ign.length c2, .slice A3 b.idn.length c3, .slice A4 b.scr.length c4, .slice A5 b.joi.length c5, .slice A6 b.con.length c6]] w fun e w' => e = .returned (.bool (smallS b)) ∧ Go.RowKit.Below w.heap.size w w' := by
  obtain ⟨s, hs⟩ : ∃ s, s = smallS b := ⟨_, rfl⟩
  rw [← hs]
  have hs2 : decide ((b.uni.length : Int) + b.exc.length + b.ign.length + b.idn.length + b.scr.length + b.joi.length + b.con.length ≤ 3000) = s := by
    rw [hs]; unfold smallS
    rw [Bool.eq_iff_iff, decide_eq_true_iff, decide_eq_true_iff]
    omega
  obtain ⟨h0, h1, h2, h3, h4, h5, h6⟩ := hm
  generalize b.uni.length = n0 at *
  generalize b.exc.length = n1 at *
  generalize b.ign.length = n2 at *
  generalize b.idn.length = n3 at *
  generalize b.scr.length = n4 at *
  generalize b.joi.length = n5 at *
  generalize b.con.length = n6 at *
  have HS := Aside0.mk hs2
  clear hs hs2
  go_enter Tryz.func8, Tryz.ntmps8
  go_wp2
  go_ret
  refine ⟨?_, below_alloc (Go.RowKit.Below.refl _ _) _⟩
  rw [← HS.out]
  rfl
set_option maxHeartbeats 4000000 in
set_option maxRecDepth 100000 in
theorem status_calls (D g base : Nat) (l : List USpan) (c : Int) (w : World) (hD : w.cell? ⟨D, 3, none⟩ = some (.pointer (some ⟨g, 0, none⟩))) (hT : STab w base g l) (hlen : l.length ≤ 1000000000) (hS : RisingS l) :
    Calls Tryz.prog 26 #[.pointer (some ⟨D, 0, none⟩), .int .i64 c] w fun e w' => e = .returned (.string (if (valS l c).data.toList = [] then ⟨#[85, 78, 65, 83, 83, 73, 71, 78, 69, 68]⟩ else valS l c)) ∧ Go.RowKit.Below w.heap.size w w' := by
  have HV := Aside0.mk (value_calls base g l c w hT hlen hS)
  obtain ⟨v, hv⟩ : ∃ v, v = valS l c := ⟨_, rfl⟩
  rw [← hv] at HV ⊢
  clear hT hlen hS hv
  by_cases hz : v.data.toList = []
  · rw [if_pos hz]
    have hz1 : (v.toList == []) = true := by rw [ByteArray.toList_eq]; simpa using hz
    have HZ := Aside0.mk hz
    clear hz
    go_enter Tryz.func26, Tryz.ntmps26
    go_wp2_with (go_at_call 51; refine HV.out.mono ?_; rintro e w2 ⟨rfl, hg2⟩; have G2 := Aside0.mk hg2; clear hg2)
    go_ret
    exact ⟨rfl, G2.out⟩
  · rw [if_neg hz]
    have hz1 : (v.toList == []) = false := by rw [ByteArray.toList_eq]; simpa using hz
    have HZ := Aside0.mk hz
    clear hz
    go_enter Tryz.func26, Tryz.ntmps26
    go_wp2_with (go_at_call 51; refine HV.out.mono ?_; rintro e w2 ⟨rfl, hg2⟩; have G2 := Aside0.mk hg2; clear hg2)
    go_ret
    exact ⟨rfl, G2.out⟩
set_option maxRecDepth 100000 in
def exU : List UInt8 := [48, 48, 67, 53, 59, 65, 32, 82, 73, 78, 71, 59, 76, 117, 59, 48, 59, 76, 59, 48, 48, 52, 49, 32, 48, 51, 48, 65, 59, 59, 59, 59, 78, 59, 59, 59, 59, 48, 48, 69, 53, 59, 10, 48, 51, 48, 65, 59, 82, 73, 78, 71, 59, 77, 110, 59, 50, 51, 48, 59, 78, 83, 77, 59, 59, 59, 59, 59, 78, 59, 59, 59, 59, 59, 10]
def exBun : Bun := ⟨exU, [], [], [], [], [], []⟩
def exRows : List URow := [⟨197, 197, ⟨#[76, 117]⟩, 0, ⟨#[76]⟩, [65, 778]⟩, ⟨778, 778, ⟨#[77, 110]⟩, 230, ⟨#[78, 83, 77]⟩, []⟩]
def exDat : DatS := ⟨exRows, [[], [], [], [], []], []⟩
set_option maxRecDepth 100000 in
theorem ex_files : (filesS exBun).1 = some exDat := by kernel_rfl
theorem ex_kor : exRows.any korB = false := by kernel_rfl
theorem ex_long : longS exRows = false := by kernel_rfl
theorem ex_pair : pairF exRows [] exRows [] = some [((65, 778), 197)] := by kernel_rfl
theorem ex_dec (c : Int) : decR exRows c = if c = 197 then [65, 778] else [] := by
  rcases rowAt_or exRows c with ⟨h, h2⟩ | ⟨h, h2, h3⟩
  · by_cases e : c = 197
    · subst e
      have : there (cfR 197) exRows = true := by kernel_rfl
      rw [this] at h2
      cases h2
    · rw [if_neg e]
      unfold decR
      rw [h]
      rfl
  · unfold decR
    generalize rowAt exRows c = r at *
    unfold exRows at h
    rcases List.mem_cons.1 h with rfl | h
    · have : c = 197 := by dsimp only at h2 h3; omega
      rw [if_pos this]
    · rw [List.mem_singleton] at h
      subst h
      have : c ≠ 197 := by dsimp only at h2 h3; omega
      rw [if_neg this]
theorem ex_cyc : ¬ Cyc (decR exRows) := by
  rintro ⟨c, hc⟩
  obtain ⟨x, hx, _⟩ := hc.first
  have hc1 : c = 197 := by
    rw [ex_dec] at hx
    by_cases e : c = 197
    · exact e
    · rw [if_neg e] at hx; cases hx
  have hT : Topo (decR exRows) [197, 65, 778] := by
    refine ⟨fun x hx => ?_, fun x hx => ?_, fun x hx => ?_, trivial⟩
    · rw [ex_dec, if_pos rfl] at hx; exact hx
    · rw [ex_dec, if_neg (by decide)] at hx; cases hx
    · rw [ex_dec, if_neg (by decide)] at hx; cases hx
  exact hT.noCyc c (by rw [hc1]; simp) hc
theorem ex_load {r : Option (DatS × List ((Int × Int) × Int))} {F L E : Int} (h : LoadR exBun r F L E) : r = some (exDat, [((65, 778), 197)]) ∧ F = 0 ∧ L = 0 ∧ E = 0 := by
  unfold LoadR at h
  rw [ex_files] at h
  rcases h with ⟨h, _⟩ | ⟨_, h⟩
  · rw [show exDat.rows = exRows from rfl, ex_kor] at h; cases h
  rcases h with ⟨h, _⟩ | ⟨_, h⟩
  · exact absurd h ex_cyc
  rcases h with ⟨h, _⟩ | ⟨_, h⟩
  · rw [show exDat.rows = exRows from rfl, ex_long] at h; cases h
  rcases h with ⟨h, _⟩ | ⟨l, h, h2, h3, h4, h5⟩
  · have := ex_pair.symm.trans h; cases this
  · have h6 := ex_pair.symm.trans h
    injection h6 with h6
    subst h6
    exact ⟨h2, h3, h4, h5⟩
theorem fileA_nil (w : World) : FileA w (.slice none 0 0) [] := by
  obtain ⟨A, c, e, _, hC⟩ := Kd.R_reads (Kd.R_nil (Kd.int .u8) 21 w 0 (fun _ => True))
  injection e with e1 e2 e3
  subst e1 e3
  exact ⟨none, 0, rfl, hC, by simp⟩

set_option maxHeartbeats 4000000 in
theorem C_octs {w : World} {g : Nat} {fr : Nat × Nat} {l : List Int} (h : w.heap[g]? = some (.cells (l.map (Value.int .u8)).toArray 5 fr)) (hl : l.length ≤ 1000) : Kd.C (Kd.int .u8) w (some ⟨g, 0, none⟩) l.length l := by
  refine ⟨rfl, by omega, fun _ => ⟨_, rfl, fun j p hj => ⟨[.int .u8 p], rfl, rfl, fun i u hu => ?_⟩⟩⟩
  have hi : i = 0 := by
    have := (List.getElem?_eq_some_iff.1 hu).1
    simp at this
    exact this
  subst hi
  injection hu with hu
  subst hu
  show w.cell? (Addr.add ⟨g, 0, none⟩ (j * 1 + 0)) = _
  rw [Addr.add_lit]
  unfold World.cell?
  rw [h]
  simp
  exact hj
set_option maxHeartbeats 4000000 in
set_option maxRecDepth 100000 in
theorem awake_calls (w : World) (T : Tabs w) : Calls Tryz.prog 7 #[] w fun e w' => e = .returned (.bool true) ∧ Go.RowKit.Below w.heap.size w w' := by
  have HT := Aside0.mk T
  clear T
  have hcv := run_convert_bytes_const w 22 5 #[.int .u8 48, .int .u8 48, .int .u8 67, .int .u8 53, .int .u8 59, .int .u8 65, .int .u8 32, .int .u8 82, .int .u8 73, .int .u8 78, .int .u8 71, .int .u8 59, .int .u8 76, .int .u8 117, .int .u8 59, .int .u8 48, .int .u8 59, .int .u8 76, .int .u8 59, .int .u8 48, .int .u8 48, .int .u8 52, .int .u8 49, .int .u8 32, .int .u8 48, .int .u8 51, .int .u8 48, .int .u8 65, .int .u8 59, .int .u8 59, .int .u8 59, .int .u8 59, .int .u8 78, .int .u8 59, .int .u8 59, .int .u8 59, .int .u8 59, .int .u8 48, .int .u8 48, .int .u8 69, .int .u8 53, .int .u8 59, .int .u8 10, .int .u8 48, .int .u8 51, .int .u8 48, .int .u8 65, .int .u8 59, .int .u8 82, .int .u8 73, .int .u8 78, .int .u8 71, .int .u8 59, .int .u8 77, .int .u8 110, .int .u8 59, .int .u8 50, .int .u8 51, .int .u8 48, .int .u8 59, .int .u8 78, .int .u8 83, .int .u8 77, .int .u8 59, .int .u8 59, .int .u8 59, .int .u8 59, .int .u8 59, .int .u8 78, .int .u8 59, .int .u8 59, .int .u8 59, .int .u8 59, .int .u8 59, .int .u8 10] 75 75 Tryz.underlying22 Tryz.underlying5
  go_enter Tryz.func7, Tryz.ntmps7
  go_wp2_with (go_at_call 9; refine Aside0.out ?_)
  refine Aside0.mk ?_
  obtain ⟨W1, hW1⟩ : ∃ W1, W1 = w.alloc (.cells #[.int .u8 48, .int .u8 48, .int .u8 67, .int .u8 53, .int .u8 59, .int .u8 65, .int .u8 32, .int .u8 82, .int .u8 73, .int .u8 78, .int .u8 71, .int .u8 59, .int .u8 76, .int .u8 117, .int .u8 59, .int .u8 48, .int .u8 59, .int .u8 76, .int .u8 59, .int .u8 48, .int .u8 48, .int .u8 52, .int .u8 49, .int .u8 32, .int .u8 48, .int .u8 51, .int .u8 48, .int .u8 65, .int .u8 59, .int .u8 59, .int .u8 59, .int .u8 59, .int .u8 78, .int .u8 59, .int .u8 59, .int .u8 59, .int .u8 59, .int .u8 48, .int .u8 48, .int .u8 69, .int .u8 53, .int .u8 59, .int .u8 10, .int .u8 48, .int .u8 51, .int .u8 48, .int .u8 65, .int .u8 59, .int .u8 82, .int .u8 73, .int .u8 78, .int .u8 71, .int .u8 59, .int .u8 77, .int .u8 110, .int .u8 59, .int .u8 50, .int .u8 51, .int .u8 48, .int .u8 59, .int .u8 78, .int .u8 83, .int .u8 77, .int .u8 59, .int .u8 59, .int .u8 59, .int .u8 59, .int .u8 59, .int .u8 78, .int .u8 59, .int .u8 59, .int .u8 59, .int .u8 59, .int .u8 59, .int .u8 10] 5 (75, 76)) := ⟨_, rfl⟩
  rw [← hW1]
  have hb1 : Go.RowKit.Below w.heap.size w W1 := by rw [hW1]; exact below_alloc (Go.RowKit.Below.refl _ _) _
  have hx1 : W1.heap[w.heap.size]? = some (.cells ((numB exU).map (Value.int .u8)).toArray 5 (75, 76)) := by rw [hW1]; exact heap_alloc_new _ _
  have hF : FileA W1 (.slice (some ⟨w.heap.size, 0, none⟩) 75 75) exU := ⟨_, 75, rfl, C_octs hx1 (by show (75 : Nat) ≤ 1000; decide), by show (75 : Nat) ≤ 100000; decide⟩
  have hsm : exBun.small := ⟨by show (75 : Nat) ≤ 100000; decide, Nat.zero_le _, Nat.zero_le _, Nat.zero_le _, Nat.zero_le _, Nat.zero_le _, Nat.zero_le _⟩
  refine (load_calls W1 _ _ _ _ _ _ _ exBun hF (fileA_nil _) (fileA_nil _) (fileA_nil _) (fileA_nil _) (fileA_nil _) (fileA_nil _) hsm (HT.out.below hb1)).mono ?_
  rintro e W2 ⟨p, F, L, E, r, rfl, hLR, hb2, hres⟩
  obtain ⟨rfl, rfl, rfl, rfl⟩ := ex_load hLR
  obtain ⟨D, Bm, rfl, hD1, hB1, hDM, hPM⟩ := hres
  obtain ⟨gu, gs, gc, hDh, hTU, hTP, hgs, hTC⟩ := hDM
  obtain ⟨a1, a2, a3, a4, a5, rfl⟩ : ∃ a b c d e, gs = [a, b, c, d, e] := by
    rcases gs with _ | ⟨a, _ | ⟨b, _ | ⟨c, _ | ⟨d, _ | ⟨e, _ | ⟨f, r⟩⟩⟩⟩⟩⟩
    all_goals first
      | (simp at hgs; done)
      | exact ⟨_, _, _, _, _, rfl⟩
  have hT2 : STab W2 W1.heap.size a3 [] := hTP.2 2 a3 [] rfl rfl
  have m0 : ∀ W, Go.RowKit.Below W2.heap.size W2 W → W.cell? ⟨D, 7, none⟩ = some (.map (some Bm)) := fun W hb => cell_up hb ((blk_cell hDh 7).trans rfl)
  have m3 : ∀ W, Go.RowKit.Below W2.heap.size W2 W → W.cell? ⟨D, 3, none⟩ = some (.pointer (some ⟨a3, 0, none⟩)) := fun W hb => cell_up hb ((blk_cell hDh 3).trans rfl)
  have H2 := Aside0.mk (And.intro m0 (And.intro m3 (And.intro hT2 (And.intro hPM (And.intro hb1 hb2)))))
  clear m0 m3 hT2 hPM hb1 hb2 hcv hW1 hx1 hF hsm hLR hDh hTU hTP hTC
  have hal : ∀ o, Go.RowKit.Below W2.heap.size W2 (W2.alloc o) := fun o => below_alloc (Go.RowKit.Below.refl _ _) _
  have HAL := Aside0.mk hal
  clear hal
  have hlk : lookP [((65, 778), 197)] (65, 778) = some 197 := by kernel_rfl
  have HMK := Aside0.mk (fun (W : World) (hb : Go.RowKit.Below W2.heap.size W2 W) => hlk ▸ makes_calls D Bm [((65, 778), 197)] 65 778 W (H2.out.1 W hb) (MapIs.below H2.out.2.2.2.1 hb) ⟨intOk_of (by decide) (by decide), intOk_of (by decide) (by decide)⟩)
  have hvs : (if (valS [] 65).data.toList = [] then (⟨#[85, 78, 65, 83, 83, 73, 71, 78, 69, 68]⟩ : ByteArray) else valS [] 65) = ⟨#[85, 78, 65, 83, 83, 73, 71, 78, 69, 68]⟩ := by rw [if_pos (by kernel_rfl)]
  have HSK := Aside0.mk (fun (W : World) (hb : Go.RowKit.Below W2.heap.size W2 W) => hvs ▸ status_calls D a3 W1.heap.size [] 65 W (H2.out.2.1 W hb) (H2.out.2.2.1.below hb) (by decide) ⟨List.Pairwise.nil, fun s h => (by cases h)⟩)
  clear hlk hvs
  go_wp2_with (first
    | (go_at_call 13; refine (HMK.out _ (HAL.out _)).mono ?_; rintro e W3 ⟨rfl, rfl⟩)
    | (go_at_call 26; refine (HSK.out _ (HAL.out _)).mono ?_; rintro e W4 ⟨rfl, hb4⟩; have H4 := Aside0.mk hb4; clear hb4))
  go_ret
  refine ⟨rfl, ?_⟩
  obtain ⟨-, -, -, -, hb1, hb2⟩ := H2.out
  have h2 : Go.RowKit.Below w.heap.size w W2 := hb1.trans (hb2.mono hb1.size)
  have h3 := h2.trans ((HAL.out (.cells #[.int .i64 0, .int .i64 0, .int .i64 0] 30)).mono h2.size)
  exact h3.trans (H4.out.mono h3.size)
end Go.Proofs.YtebgebgkieglhaaGreatDoor.FieldW
end
section
/- DataMakes is walked. -/
namespace Go.Proofs.YtebgebgkieglhaaGreatDoor.FieldW
open Go.RowKit Go.Shelf Go.Lib Go.Proofs Go.Proofs.YtebgebgkieglhaaGreatDoorW.PrintWords Go.Proofs.YtebgebgkieglhaaGreatDoorW.PrintLast Go.Proofs.YtebgebgkieglhaaGreatDoorW.PrintMore Go.Proofs.YtebgebgkieglhaaGreatDoor.PRef
set_option linter.unusedVariables false
set_option linter.unusedSimpArgs false
open Go Go.Maps
set_option maxRecDepth 100000
attribute [local go_sem] Oper.semAt_some


theorem LoadR_none {b : Bun} {F L E : Int} (h : LoadR b none F L E) : E ≠ 0 ∧ 1 ≤ F ∧ F ≤ 7 := by
  unfold LoadR at h
  cases hf : (filesS b).1 with
  | none =>
    rw [hf] at h
    have h2 := filesS_bad hf
    rw [h.2] at h2
    exact h2
  | some d =>
    rw [hf] at h
    rcases h with ⟨_, _, h1, h2, h3⟩ | ⟨_, h⟩
    · subst h1 h3; decide
    rcases h with ⟨_, _, h1, h2, h3⟩ | ⟨_, h⟩
    · subst h1 h3; decide
    rcases h with ⟨_, _, h1, h2, h3⟩ | ⟨_, h⟩
    · subst h1 h3; decide
    rcases h with ⟨_, _, h1, h2, h3⟩ | ⟨l, _, h1, _⟩
    · subst h1 h3; decide
    · cases h1
theorem LoadR_some {b : Bun} {d : DatS} {l : List ((Int × Int) × Int)} {F L E : Int} (h : LoadR b (some (d, l)) F L E) : (filesS b).1 = some d ∧ d.rows.any korB = false ∧ pairF d.rows (d.props.getD 0 []) d.rows [] = some l ∧ F = 0 ∧ L = 0 ∧ E = 0 := by
  unfold LoadR at h
  cases hf : (filesS b).1 with
  | none => rw [hf] at h; cases h.1
  | some d' =>
    rw [hf] at h
    rcases h with ⟨_, h, _⟩ | ⟨hk, h⟩
    · cases h
    rcases h with ⟨_, h, _⟩ | ⟨_, h⟩
    · cases h
    rcases h with ⟨_, h, _⟩ | ⟨_, h⟩
    · cases h
    rcases h with ⟨_, h, _⟩ | ⟨l', hp, h1, h2, h3, h4⟩
    · cases h
    · injection h1 with h1
      injection h1 with h1 h5
      subst h1 h5
      exact ⟨rfl, hk, hp, h2, h3, h4⟩
theorem korean_ref (c : Int) : Go.Proofs.YtebgebgkieglhaaGreatDoor.PU.paronymref07_Korean.f c = some (decide ((4352 ≤ c ∧ c ≤ 4370) ∨ (4449 ≤ c ∧ c ≤ 4469) ∨ (4520 ≤ c ∧ c ≤ 4546) ∨ (44032 ≤ c ∧ c ≤ 55203))) := by
  unfold Go.Proofs.YtebgebgkieglhaaGreatDoor.PU.paronymref07_Korean.f
  repeat' split
  all_goals (congr 1; first | (symm; rw [decide_eq_true_iff]; omega) | (symm; rw [decide_eq_false_iff_not]; omega) | (rw [decide_eq_decide]; omega))
theorem wrap_smallQ (x : Int) (h0 : -9223372036854775808 ≤ x) (h1 : x < 9223372036854775808) : wrap64 x = x := by
  unfold wrap64; omega
theorem cmp_loop (q : List Int) (hl : q.length ≤ 1000000) : ∀ (j i K : Nat), i + j = q.length → 2 * j + 2 ≤ K → Go.Proofs.YtebgebgkieglhaaGreatDoor.PU.paronymref01_Compare.l0 K q q i = some 0
  | 0, i, K, hi, hK => by
    obtain ⟨K, rfl⟩ : ∃ k, K = k + 2 := ⟨K - 2, by omega⟩
    rw [Go.Proofs.YtebgebgkieglhaaGreatDoor.PU.paronymref01_Compare.l0, if_neg (by omega), Go.Proofs.YtebgebgkieglhaaGreatDoor.PU.paronymref01_Compare.j1, if_neg (by decide), if_neg (by omega), if_neg (by omega)]
  | j + 1, i, K, hi, hK => by
    obtain ⟨K, rfl⟩ : ∃ k, K = k + 2 := ⟨K - 2, by omega⟩
    have hw : wrap64 ((i : Int) + 1) = ((i + 1 : Nat) : Int) := by rw [wrap_smallQ _ (by omega) (by omega)]; rfl
    rw [Go.Proofs.YtebgebgkieglhaaGreatDoor.PU.paronymref01_Compare.l0, if_pos (by omega), decide_eq_true (by omega), Go.Proofs.YtebgebgkieglhaaGreatDoor.PU.paronymref01_Compare.j1, if_pos rfl, if_pos (by omega), if_pos (by omega), if_pos (by omega), if_neg (by omega), if_neg (by omega), hw]
    exact cmp_loop q hl j (i + 1) K (by omega) (by omega)
theorem ref_same (q : List Int) (hl : q.length ≤ 1000000) (K : Nat) (hK : 2 * q.length + 2 ≤ K) : Go.Proofs.YtebgebgkieglhaaGreatDoor.PU.paronymref01_Same.f K q q = some true := by
  unfold Go.Proofs.YtebgebgkieglhaaGreatDoor.PU.paronymref01_Same.f Go.Proofs.YtebgebgkieglhaaGreatDoor.PU.paronymref01_Compare.f
  have := cmp_loop q hl q.length 0 K (by omega) hK
  rw [show ((0 : Nat) : Int) = 0 from rfl] at this
  rw [this]; rfl
theorem C_lit {w : World} {g : Nat} {l : List Int} (h : w.heap[g]? = some (.cells (l.map (Value.int .i64)).toArray 3 (0, 0))) (hl : l.length ≤ 1000) : Kd.C (Kd.int .i64) w (some ⟨g, 0, none⟩) l.length l := by
  refine ⟨rfl, by omega, fun _ => ⟨_, rfl, fun j p hj => ⟨[.int .i64 p], rfl, rfl, fun i u hu => ?_⟩⟩⟩
  have hi : i = 0 := by
    have := (List.getElem?_eq_some_iff.1 hu).1
    simp at this
    exact this
  subst hi
  injection hu with hu
  subst hu
  show w.cell? (Addr.add ⟨g, 0, none⟩ (j * 1 + 0)) = _
  rw [Addr.add_lit]
  unfold World.cell?
  rw [h]
  simp
  exact hj
theorem drawn_below {w w' : World} (h : Drawn0 w w') : Go.RowKit.Below w.heap.size w w' := by
  obtain ⟨n, rfl⟩ := h
  exact below_drewN (Go.RowKit.Below.refl _ _) n
set_option maxHeartbeats 8000000 in
theorem datamakes_calls (A0 : Option Addr) (c0 : Nat) (A1 : Option Addr) (c1 : Nat) (A2 : Option Addr) (c2 : Nat) (A3 : Option Addr) (c3 : Nat) (A4 : Option Addr) (c4 : Nat) (A5 : Option Addr) (c5 : Nat) (A6 : Option Addr) (c6 : Nat) (b : Bun) (x y : Int) (w : World) (h0 : Kd.C (Kd.int .u8) w A0 b.uni.length (numB b.uni)) (h1 : Kd.C (Kd.int .u8) w A1 b.exc.length (numB b.exc)) (h2 : Kd.C (Kd.int .u8) w A2 b.ign.length (numB b.ign)) (h3 : Kd.C (Kd.int .u8) w A3 b.idn.length (numB b.idn)) (h4 : Kd.C (Kd.int .u8) w A4 b.scr.length (numB b.scr)) (h5 : Kd.C (Kd.int .u8) w A5 b.joi.length (numB b.joi)) (h6 : Kd.C (Kd.int .u8) w A6 b.con.length (numB b.con)) (hm : b.uni.length ≤ 281474976710656 ∧ b.exc.length ≤ 281474976710656 ∧ b.ign.length ≤ 281474976710656 ∧ b.idn.length ≤ 281474976710656 ∧ b.scr.length ≤ 281474976710656 ∧ b.joi.length ≤ 281474976710656 ∧ b.con.length ≤ 281474976710656) (hx : intOk x) (hy : intOk y) (T : Tabs w) :
    Calls Tryz.prog 3 #[.agg #[.slice A0 b.uni.length c0, .slice A1 b.exc.length c1, .slice A2 b.ign.length c2, .slice A3 b.idn.length c3, .slice A4 b.scr.length c4, .slice A5 b.joi.length c5, .slice A6 b.con.length c6], .int .i64 x, .int .i64 y] w fun e w' => e = .returned (.bool true) ∧ Go.RowKit.Below w.heap.size w w' := by
  have HC := Aside0.mk (And.intro h0 (And.intro h1 (And.intro h2 (And.intro h3 (And.intro h4 (And.intro h5 h6))))))
  have HT := Aside0.mk (And.intro T (And.intro hx (And.intro hy hm)))
  have AW := fun (W : World) (hb : Go.RowKit.Below w.heap.size w W) => awake_calls W (T.below hb)
  have HAW := Aside0.mk AW
  have HSM := Aside0.mk (fun (W : World) => small_calls A0 A1 A2 A3 A4 A5 A6 c0 c1 c2 c3 c4 c5 c6 b W hm)
  have bx : ∀ (W : World), Go.RowKit.Below (w.heap.size + 2) ((w.alloc (.cells #[.slice A0 b.uni.length c0, .slice A1 b.exc.length c1, .slice A2 b.ign.length c2, .slice A3 b.idn.length c3, .slice A4 b.scr.length c4, .slice A5 b.joi.length c5, .slice A6 b.con.length c6] 24)).alloc (.cells #[.bool false] 4)) W → ∀ i : Nat, W.cell? ⟨w.heap.size, i, none⟩ = (#[.slice A0 b.uni.length c0, .slice A1 b.exc.length c1, .slice A2 b.ign.length c2, .slice A3 b.idn.length c3, .slice A4 b.scr.length c4, .slice A5 b.joi.length c5, .slice A6 b.con.length c6] : Array Value)[i]? := fun W hb i => by
    have h := (hb.block w.heap.size (by omega)).trans ((Go.RowKit.Below.heap_alloc (w.alloc (.cells #[.slice A0 b.uni.length c0, .slice A1 b.exc.length c1, .slice A2 b.ign.length c2, .slice A3 b.idn.length c3, .slice A4 b.scr.length c4, .slice A5 b.joi.length c5, .slice A6 b.con.length c6] 24)) (.cells #[.bool false] 4) w.heap.size (by simp)).trans (heap_alloc_new w (.cells #[.slice A0 b.uni.length c0, .slice A1 b.exc.length c1, .slice A2 b.ign.length c2, .slice A3 b.idn.length c3, .slice A4 b.scr.length c4, .slice A5 b.joi.length c5, .slice A6 b.con.length c6] 24)))
    exact blk_cell h i
  have rx : ∀ (W : World), Go.RowKit.Below (w.heap.size + 2) ((w.alloc (.cells #[.slice A0 b.uni.length c0, .slice A1 b.exc.length c1, .slice A2 b.ign.length c2, .slice A3 b.idn.length c3, .slice A4 b.scr.length c4, .slice A5 b.joi.length c5, .slice A6 b.con.length c6] 24)).alloc (.cells #[.bool false] 4)) W → W.heap[w.heap.size + 1]? = some (.cells #[.bool false] 4 (0, 0)) := fun W hb => by
    have h := heap_alloc_new (w.alloc (.cells #[.slice A0 b.uni.length c0, .slice A1 b.exc.length c1, .slice A2 b.ign.length c2, .slice A3 b.idn.length c3, .slice A4 b.scr.length c4, .slice A5 b.joi.length c5, .slice A6 b.con.length c6] 24)) (.cells #[.bool false] 4)
    rw [World.size_alloc] at h
    exact (hb.block (w.heap.size + 1) (by omega)).trans h
  have ab : Go.RowKit.Below w.heap.size w ((w.alloc (.cells #[.slice A0 b.uni.length c0, .slice A1 b.exc.length c1, .slice A2 b.ign.length c2, .slice A3 b.idn.length c3, .slice A4 b.scr.length c4, .slice A5 b.joi.length c5, .slice A6 b.con.length c6] 24)).alloc (.cells #[.bool false] 4)) := below_alloc (below_alloc (Go.RowKit.Below.refl _ _) _) _
  have as2 : ((w.alloc (.cells #[.slice A0 b.uni.length c0, .slice A1 b.exc.length c1, .slice A2 b.ign.length c2, .slice A3 b.idn.length c3, .slice A4 b.scr.length c4, .slice A5 b.joi.length c5, .slice A6 b.con.length c6] 24)).alloc (.cells #[.bool false] 4)).heap.size = w.heap.size + 2 := by simp
  have HBX := Aside0.mk (And.intro bx (And.intro rx (And.intro ab as2)))
  obtain ⟨sm, hsm⟩ : ∃ sm, sm = smallS b := ⟨_, rfl⟩
  have HSB := Aside0.mk hsm
  clear h0 h1 h2 h3 h4 h5 h6 T hx hy hm AW bx rx ab as2 hsm
  refine (callsIn_wide (n := 4)).1 ?_
  refine callsIn_of_wp_marks Tryz.func3 rfl trivial ?_ rfl
  simp only [Tryz.ntmps3, List.size_toArray, List.length_cons, List.length_nil, Nat.reduceAdd, Nat.reduceSub, Array.replicate_succ, Array.replicate_zero, List.push_toArray, List.append_toArray, List.nil_append, List.cons_append]
  refine wpIn_wide.2 ?_
  go_wp2_with (go_at_call 7; refine Aside0.out ?_)
  refine Aside0.mk ?_
  obtain ⟨W1, hW1⟩ : ∃ W1, W1 = ((w.alloc (.cells #[.slice A0 b.uni.length c0, .slice A1 b.exc.length c1, .slice A2 b.ign.length c2, .slice A3 b.idn.length c3, .slice A4 b.scr.length c4, .slice A5 b.joi.length c5, .slice A6 b.con.length c6] 24)).alloc (.cells #[.bool false] 4)) := ⟨_, rfl⟩
  rw [← hW1] at HBX ⊢
  clear hW1
  refine (HAW.out W1 HBX.out.2.2.1).mono ?_
  rintro e W2 ⟨rfl, hb2⟩
  have hs1 := HBX.out.2.2.2
  have h12 : Go.RowKit.Below (w.heap.size + 2) W1 W2 := hb2.mono (by omega)
  have bfs := HBX.out.1 W2 h12
  have q0 : W2.cell? ⟨w.heap.size, 0, none⟩ = some (.slice A0 b.uni.length c0) := (bfs 0).trans rfl
  have q1 : W2.cell? ⟨w.heap.size, 1, none⟩ = some (.slice A1 b.exc.length c1) := (bfs 1).trans rfl
  have q2 : W2.cell? ⟨w.heap.size, 2, none⟩ = some (.slice A2 b.ign.length c2) := (bfs 2).trans rfl
  have q3 : W2.cell? ⟨w.heap.size, 3, none⟩ = some (.slice A3 b.idn.length c3) := (bfs 3).trans rfl
  have q4 : W2.cell? ⟨w.heap.size, 4, none⟩ = some (.slice A4 b.scr.length c4) := (bfs 4).trans rfl
  have q5 : W2.cell? ⟨w.heap.size, 5, none⟩ = some (.slice A5 b.joi.length c5) := (bfs 5).trans rfl
  have q6 : W2.cell? ⟨w.heap.size, 6, none⟩ = some (.slice A6 b.con.length c6) := (bfs 6).trans rfl
  have H2 := Aside0.mk h12
  clear hb2 h12 bfs hs1
  cases sm with
  | false =>
    go_wp2_with (first
      | (go_at_call 8; refine (HSM.out _).mono ?_; rw [← HSB.out]; rintro e W3 ⟨rfl, hb3⟩; have h13 : Go.RowKit.Below (w.heap.size + 2) W1 W3 := H2.out.trans (hb3.mono (by have := H2.out.size; have := HBX.out.2.2.2; omega)); have H3 := Aside0.mk h13; clear hb3 h13)
      | (go_at_call 7; refine (HAW.out _ (HBX.out.2.2.1.trans (H3.out.mono (by omega)))).mono ?_; rintro e W4 ⟨rfl, hb4⟩; have h14 : Go.RowKit.Below (w.heap.size + 2) W1 W4 := H3.out.trans (hb4.mono (by have := H3.out.size; have := HBX.out.2.2.2; omega)); have r4 := HBX.out.2.1 W4 h14; have y4 : W4.cell? ⟨w.heap.size + 1, 0, none⟩ = some (.bool false) := (blk_cell r4 0).trans rfl; have z4 := blk_frozen r4 0; have H4 := Aside0.mk (And.intro h14 r4); clear hb4 h14 r4))
    obtain ⟨h14, r4⟩ := H4.out
    refine ⟨_, results_bool rfl _ _ ⟨w.heap.size + 1, 0, none⟩ true rfl ((blk_cell (blk_set r4 0 (.bool true)) 0).trans rfl), rfl, ?_⟩
    exact (HBX.out.2.2.1.trans (h14.mono (by omega))).setCell (p := ⟨w.heap.size + 1, 0, none⟩) (by show w.heap.size ≤ w.heap.size + 1; omega) _
  | true =>
    go_wp2_with (first
      | (go_at_call 8; refine (HSM.out _).mono ?_; rw [← HSB.out]; rintro e W3 ⟨rfl, hb3⟩; have h13 : Go.RowKit.Below (w.heap.size + 2) W1 W3 := H2.out.trans (hb3.mono (by have := H2.out.size; have := HBX.out.2.2.2; omega)); have bfs := HBX.out.1 W3 h13; have k0 : W3.cell? ⟨w.heap.size, 0, none⟩ = some (.slice A0 b.uni.length c0) := (bfs 0).trans rfl; have k1 : W3.cell? ⟨w.heap.size, 1, none⟩ = some (.slice A1 b.exc.length c1) := (bfs 1).trans rfl; have k2 : W3.cell? ⟨w.heap.size, 2, none⟩ = some (.slice A2 b.ign.length c2) := (bfs 2).trans rfl; have k3 : W3.cell? ⟨w.heap.size, 3, none⟩ = some (.slice A3 b.idn.length c3) := (bfs 3).trans rfl; have k4 : W3.cell? ⟨w.heap.size, 4, none⟩ = some (.slice A4 b.scr.length c4) := (bfs 4).trans rfl; have k5 : W3.cell? ⟨w.heap.size, 5, none⟩ = some (.slice A5 b.joi.length c5) := (bfs 5).trans rfl; have k6 : W3.cell? ⟨w.heap.size, 6, none⟩ = some (.slice A6 b.con.length c6) := (bfs 6).trans rfl; have H3 := Aside0.mk h13; clear hb3 h13 bfs)
      | (go_at_call 9; refine Aside0.out ?_))
    refine Aside0.mk ?_
    have h3 := H3.out
    have hw3 : Go.RowKit.Below w.heap.size w W3 := HBX.out.2.2.1.trans (h3.mono (by omega))
    have hsz : b.uni.length + b.exc.length + b.ign.length + b.idn.length + b.scr.length + b.joi.length + b.con.length ≤ 3000 := by
      have := HSB.out
      unfold smallS at this
      exact of_decide_eq_true this.symm
    have hbs : b.small := ⟨by omega, by omega, by omega, by omega, by omega, by omega, by omega⟩
    obtain ⟨C0, C1, C2, C3, C4, C5, C6⟩ := HC.out
    refine (load_calls W3 _ _ _ _ _ _ _ b ⟨_, _, rfl, Kd.C_below C0 hw3, hbs.1⟩ ⟨_, _, rfl, Kd.C_below C1 hw3, hbs.2.1⟩ ⟨_, _, rfl, Kd.C_below C2 hw3, hbs.2.2.1⟩ ⟨_, _, rfl, Kd.C_below C3 hw3, hbs.2.2.2.1⟩ ⟨_, _, rfl, Kd.C_below C4 hw3, hbs.2.2.2.2.1⟩ ⟨_, _, rfl, Kd.C_below C5 hw3, hbs.2.2.2.2.2.1⟩ ⟨_, _, rfl, Kd.C_below C6 hw3, hbs.2.2.2.2.2.2⟩ hbs (HT.out.1.below hw3)).mono ?_
    rintro e W4 ⟨p, F, L, E, r, rfl, hLR, hb4, hres⟩
    have hs1 := HBX.out.2.2.2
    have hs3 := h3.size
    have h14 : Go.RowKit.Below (w.heap.size + 2) W1 W4 := h3.trans (hb4.mono (by omega))
    have r4 := HBX.out.2.1 W4 h14
    have hw4 : Go.RowKit.Below w.heap.size w W4 := hw3.trans (hb4.mono hw3.size)
    have hs4 := hb4.size
    have HX3 := Aside0.mk hs3
    clear q0 q1 q2 q3 q4 q5 q6 k0 k1 k2 k3 k4 k5 k6 C0 C1 C2 C3 C4 C5 C6 hsz h3
    cases r with
    | none =>
      obtain rfl : p = .pointer none := hres
      obtain ⟨e1, e2, e3⟩ := LoadR_none hLR
      have hEb : (E != 0) = true := bne_iff_ne.2 e1
      have hF1 : decide (F ≥ 1) = true := decide_eq_true e2
      have hF7 : decide (F ≤ 7) = true := decide_eq_true e3
      have y4 : ∀ o o', ((W4.alloc o).alloc o').cell? ⟨w.heap.size + 1, 0, none⟩ = some (.bool false) := fun o o' => cell_grows9 (cell_grows9 ((blk_cell r4 0).trans rfl))
      have z4 : ∀ o o', ((W4.alloc o).alloc o').frozen? ⟨w.heap.size + 1, 0, none⟩ = false := fun o o' => blk_frozen (((below_alloc (below_alloc (Go.RowKit.Below.refl W4.heap.size W4) o) o').block _ (blk_lt r4)).trans r4) 0
      have H4 := Aside0.mk (And.intro r4 hw4)
      clear e1 hLR hb4 h14 r4 hw4 hs3 hs4 hw3 hbs
      go_wp2
      obtain ⟨r4, hw4⟩ := H4.out
      have hwa : ∀ o o', Go.RowKit.Below w.heap.size w ((W4.alloc o).alloc o') := fun o o' => below_alloc (below_alloc hw4 _) _
      have ra : ∀ o o', ((W4.alloc o).alloc o').heap[w.heap.size + 1]? = some (.cells #[.bool false] 4 (0, 0)) := fun o o' => ((below_alloc (below_alloc (Go.RowKit.Below.refl W4.heap.size W4) o) o').block _ (blk_lt r4)).trans r4
      refine ⟨_, results_bool rfl _ _ ⟨w.heap.size + 1, 0, none⟩ true rfl ((blk_cell (blk_set (ra _ _) 0 (.bool true)) 0).trans rfl), rfl, ?_⟩
      exact (hwa _ _).setCell (p := ⟨w.heap.size + 1, 0, none⟩) (by show w.heap.size ≤ w.heap.size + 1; omega) _
    | some dl =>
      obtain ⟨d, l⟩ := dl
      obtain ⟨D, Bm, rfl, hD1, hB1, hDM, hPM⟩ := hres
      obtain ⟨hf, hkor, hpF, rfl, rfl, rfl⟩ := LoadR_some hLR
      obtain ⟨-, hG, hp5, hps, -⟩ := filesS_good hbs hf
      obtain ⟨gu, gs, gc, hDh, hTU, hTP, hgs, -⟩ := hDM
      have hdg := dCells_get gu gs (ptr gc) (.map (some Bm)) (by omega)
      obtain ⟨g0, hg0⟩ : ∃ g0, gs[0]? = some g0 := ⟨_, List.getElem?_eq_getElem (by omega)⟩
      have hpr0 : d.props[0]? = some (d.props.getD 0 []) := by
        rw [List.getD_eq_getElem?_getD, List.getElem?_eq_getElem (by omega)]
        rfl
      have hT0 := hTP.2 0 _ _ hg0 hpr0
      have hmem : d.props.getD 0 [] ∈ d.props := List.mem_of_getElem? hpr0
      have hp0 := hps _ hmem
      have hd1 : (dCells gu gs (ptr gc) (.map (some Bm)))[1]? = some (.pointer (some ⟨g0, 0, none⟩)) := by
        rcases gs with _ | ⟨a, r⟩
        · cases hg0
        · injection hg0 with hg0; subst hg0; rfl
      have yD0 : W4.cell? ⟨D, 0, none⟩ = some (.pointer (some ⟨gu, 0, none⟩)) := (blk_cell hDh 0).trans (List.getElem?_toArray.trans hdg.1)
      have yD1 : W4.cell? ⟨D, 1, none⟩ = some (.pointer (some ⟨g0, 0, none⟩)) := (blk_cell hDh 1).trans (List.getElem?_toArray.trans hd1)
      have yD7 : W4.cell? ⟨D, 7, none⟩ = some (.map (some Bm)) := (blk_cell hDh 7).trans (List.getElem?_toArray.trans hdg.2.2)
      have HM := Aside0.mk (And.intro yD0 (And.intro yD1 (And.intro yD7 (And.intro hTU (And.intro hT0 (And.intro hp0 hPM))))))
      have HG := Aside0.mk (And.intro hkor (And.intro hpF (And.intro r4 (And.intro hw4 hs4))))
      have hal : ∀ o o', ((W4.alloc o).alloc o').cell? ⟨D, 0, none⟩ = some (.pointer (some ⟨gu, 0, none⟩)) := fun o o' => cell_grows9 (cell_grows9 yD0)
      clear hLR hf hkor hpF hDh hTU hTP hgs hdg hg0 hpr0 hT0 hmem hp0 hd1 hPM hb4 h14 r4 hw4 hs4 hw3 hs3 hbs hp5 hps yD0 yD1 yD7 hal
      have hsk : True := trivial
      go_wp2_with (first
        | (go_at_call 10; refine (unicode_calls D gu _ (cell_grows9 (cell_grows9 HM.out.1))).mono ?_; rintro e W5 ⟨rfl, rfl⟩)
        | (go_at_call 11; refine Aside0.out ?_))
      refine Aside0.mk ?_
      obtain ⟨W5, hW5⟩ : ∃ W5, W5 = ((W4.alloc (.cells #[.pointer (some ⟨D, 0, none⟩)] 27)).alloc (.cells #[.int .i64 0, .int .i64 0, .int .i64 0] 30)) := ⟨_, rfl⟩
      have h45 : Go.RowKit.Below W4.heap.size W4 W5 := by rw [hW5]; exact below_alloc (below_alloc (Go.RowKit.Below.refl _ _) _) _
      have hp7 : W5.heap[W4.heap.size]? = some (.cells #[.pointer (some ⟨D, 0, none⟩)] 27 (0, 0)) := by rw [hW5]; exact (Go.RowKit.Below.heap_alloc _ _ _ (by simp)).trans (heap_alloc_new _ _)
      have hs5 : W5.heap.size = W4.heap.size + 2 := by rw [hW5]; simp
      rw [← hW5]
      refine (rows_calls gu W5).mono ?_
      rintro e Wr ⟨rfl, hWr⟩
      rw [hs5]
      have h5r : Go.RowKit.Below W5.heap.size W5 Wr := by rw [hWr]; exact below_alloc (Go.RowKit.Below.refl _ _) _
      have h4r : Go.RowKit.Below W4.heap.size W4 Wr := h45.trans (h5r.mono h45.size)
      have hbx : Wr.heap[W4.heap.size + 2]? = some (.cells #[.pointer (some ⟨gu, 0, none⟩)] 35 (0, 0)) := by rw [hWr, ← hs5]; exact heap_alloc_new _ _
      have hsr : Wr.heap.size = W4.heap.size + 3 := by rw [hWr]; simp [hs5]
      have hp7r := (h5r.block _ (blk_lt hp7)).trans hp7
      have HI := Aside0.mk (And.intro h4r (And.intro hbx (And.intro hsr hp7r)))
      clear hW5 h45 hp7 hs5 hWr h5r h4r hbx hsr hp7r
      go_wp2
      refine (wpIn_wide (n := 4)).1 ?_
      refine rows_range (w0 := W4) (base := W3.heap.size) (gu := gu) (n0 := w.heap.size) (Bx := W4.heap.size + 2) (rs := d.rows) rfl HI.out.2.1 HM.out.2.2.2.1 HI.out.1 (by have := HG.out.2.2.2.1.size; have := HI.out.1.size; omega) (Nat.le_trans hG.len (by decide)) (fun r hr => Nat.le_trans (hG.good r hr).2.2.2.1 (by decide)) rfl
        (fun r Lv v => { tmps := #[.agg #[.slice A0 b.uni.length c0, .slice A1 b.exc.length c1, .slice A2 b.ign.length c2, .slice A3 b.idn.length c3, .slice A4 b.scr.length c4, .slice A5 b.joi.length c5, .slice A6 b.con.length c6], .int .i64 x, .int .i64 y, .pointer (some ⟨w.heap.size, 0, none⟩), undef, undef, .pointer (some ⟨w.heap.size + 1, 0, none⟩), .pointer (some ⟨W4.heap.size, 0, none⟩), .pointer (some ⟨W4.heap.size + 1, 0, none⟩), .pointer (some ⟨Lv, 0, none⟩), undef, undef, undef, undef, .bool true, .bool false, .bool false, .agg #[.slice A0 b.uni.length c0, .slice A1 b.exc.length c1, .slice A2 b.ign.length c2, .slice A3 b.idn.length c3, .slice A4 b.scr.length c4, .slice A5 b.joi.length c5, .slice A6 b.con.length c6], .bool true, .bool false, .bool false, undef, .tuple #[.pointer (some ⟨D, 0, none⟩), .agg #[.int .i64 0, .int .i64 0, .int .i64 0]], .agg #[.slice A0 b.uni.length c0, .slice A1 b.exc.length c1, .slice A2 b.ign.length c2, .slice A3 b.idn.length c3, .slice A4 b.scr.length c4, .slice A5 b.joi.length c5, .slice A6 b.con.length c6], .tuple #[.pointer (some ⟨D, 0, none⟩), .agg #[.int .i64 0, .int .i64 0, .int .i64 0]], .pointer (some ⟨D, 0, none⟩), .agg #[.int .i64 0, .int .i64 0, .int .i64 0], .pointer (some ⟨D, 0, none⟩), .bool false, undef, undef, undef, undef, undef, undef, undef, undef, undef, undef, undef, undef, undef, .pointer (some ⟨D, 0, none⟩), .pointer (some ⟨gu, 0, none⟩), .func (.func 40) #[] #[.pointer (some ⟨W4.heap.size + 2, 0, none⟩)], .agg (rowC r v), undef, undef, undef, undef, undef, undef, undef, undef, undef, undef, undef, undef, undef, undef, undef, undef, undef, undef, undef, undef, undef, undef, undef, undef, undef, undef, undef, undef, undef, undef, undef, undef, undef, undef, undef, undef, undef, undef, undef, undef, undef, undef, undef, undef, undef, undef, undef, undef, undef, undef, undef, undef, undef, undef, undef, undef, undef, undef, undef, undef, undef, undef, undef, undef, undef, undef, undef, undef, undef, undef, undef, undef, undef, undef, undef, undef, undef, undef, undef, undef, undef, undef, undef, undef, undef, undef, undef, undef, undef, undef, undef, undef, undef, undef, undef, undef, undef, undef, undef, undef], defers := [] })
        (fun _ W => Go.RowKit.Below Wr.heap.size Wr W) (fun _ _ _ => False) (fun _ A B hA hb => hA.trans hb) (fun _ _ A B h _ => h) (Go.RowKit.Below.refl _ _) ?assign ?body ?done ?stop
      case assign =>
        intro l x A c W Kc h
        unfold rowC at h ⊢
        gi_wp2
        exact h
      case body =>
        rintro lp Z pre r rr Lv v W hI hx hL hLv hR hW hZ hK
        obtain ⟨A9, c9, rfl⟩ := Kd.R_slice hR
        have h4W : Go.RowKit.Below W4.heap.size W4 W := HI.out.1.trans (hI.mono HI.out.1.size)
        have hrm : r ∈ d.rows := by rw [hx]; simp
        have y7 : W.cell? ⟨W4.heap.size, 0, none⟩ = some (.pointer (some ⟨D, 0, none⟩)) := (blk_cell ((hI.block _ (blk_lt HI.out.2.2.2)).trans HI.out.2.2.2) 0).trans rfl
        have l0 : W.cell? ⟨Lv, 0, none⟩ = some (.int .i64 r.first) := (blk_cell hL 0).trans rfl
        have l1 : W.cell? ⟨Lv, 1, none⟩ = some (.int .i64 r.last) := (blk_cell hL 1).trans rfl
        have l3 : W.cell? ⟨Lv, 3, none⟩ = some (.int .i64 r.ccc) := (blk_cell hL 3).trans rfl
        have l5 : W.cell? ⟨Lv, 5, none⟩ = some (.slice A9 r.dec.length c9) := (blk_cell hL 5).trans rfl
        unfold rowC
        have hgx := hG.good r hrm
        have HX := Aside0.mk (And.intro hZ (And.intro hK (And.intro hW (And.intro hI (And.intro h4W (And.intro hrm hgx))))))
        have hgl : ∀ a b, r.dec = [a, b] → ∃ g, A9 = some ⟨g, 0, none⟩ ∧ W.cell? ⟨g, 0, none⟩ = some (.int .i64 a) ∧ W.cell? ⟨g, 1, none⟩ = some (.int .i64 b) := by
          intro a b hab
          obtain ⟨A8, c8, e9, _, hC9⟩ := Kd.R_reads hR
          injection e9 with e1 e2 e3
          subst e1
          obtain ⟨-, inner, ⟨hlen, hown⟩, -⟩ := hR
          rcases hown with ⟨e, hn⟩ | ⟨g, cap, cur, e, -⟩
          · rw [hab] at hn; cases hn
          · injection e with e1 e2 e3
            subst e1
            obtain ⟨ad, e4, h0⟩ := Kd.at_int hC9 0 (by omega) (by rw [hab]; simp)
            injection e4 with e4
            subst e4
            obtain ⟨ad, e4, h1⟩ := Kd.at_int hC9 1 (by omega) (by rw [hab]; simp)
            injection e4 with e4
            subst e4
            rw [hab] at h0 h1
            exact ⟨g, rfl, h0, h1⟩
        have HGL := Aside0.mk hgl
        have nxt : ∀ W', Go.RowKit.Below W.heap.size W W' → KeepZ (fun b_ => Z b_ ∨ ((W3.heap.size ≤ b_ ∧ b_ < W4.heap.size) ∨ b_ = W4.heap.size + 2)) W W' ∧ Go.RowKit.Below w.heap.size W W' ∧ rI Wr.heap.size (fun _ W => Go.RowKit.Below Wr.heap.size Wr W) Z (pre ++ [r]) W' := fun W' hb' => by
          refine rI_next HX.out.1 HX.out.2.1 HX.out.2.2.1 (fun b_ hb _ => hb'.block b_ hb) (hb'.mono ?_) (HX.out.2.2.2.1.trans (hb'.mono HX.out.2.2.1))
          have := HG.out.2.2.2.1.size
          have := HX.out.2.2.2.2.1.size
          omega
        have HNX := Aside0.mk nxt
        clear nxt hgl hZ hK hW hI h4W hrm hgx hR hL hx
        by_cases hA : r.dec = [] ∧ r.ccc = 0
        · obtain ⟨hA1, hA2⟩ := hA
          have hA0 : r.dec.length = 0 := by rw [hA1]; rfl
          rw [hA0] at l5 ⊢
          rw [hA2] at l3 ⊢
          clear hA1 hA0 hA2
          gi_wp2_with (refine ⟨trivial, ?_⟩)
          exact HNX.out _ (Go.RowKit.Below.refl _ _)
        · have hor : r.dec ≠ [] ∨ r.ccc ≠ 0 := by
            by_cases h1 : r.dec = []
            · exact .inr (fun h2 => hA ⟨h1, h2⟩)
            · exact .inl h1
          have kof : ∀ c, (c = r.first ∨ c = r.last) → ∀ W, Calls Tryz.prog 12 #[.int .i64 c] W fun e w' => e = .returned (.bool false) ∧ Drawn0 W w' := fun c hc W =>
            Go.Proofs.YtebgebgkieglhaaGreatDoor.PU.paronymref07_Korean.calls c false W (by rw [korean_ref, decide_eq_false (kor_row hG.rise HG.out.1 HX.out.2.2.2.2.2.1 hor c hc)])
          have HKO := Aside0.mk kof
          clear kof hA
          by_cases h2 : r.dec.length = 2
          · obtain ⟨a, b_, hab⟩ : ∃ a b, r.dec = [a, b] := by
              rcases hq : r.dec with _ | ⟨a, _ | ⟨b, _ | ⟨c, t⟩⟩⟩
              all_goals first
                | (rw [hq] at h2; simp at h2; done)
                | exact ⟨_, _, rfl⟩
            obtain ⟨g, rfl, ya, yb⟩ := HGL.out a b_ hab
            have HAB := Aside0.mk hab
            rw [h2] at l5 ⊢
            clear hab h2 hor
            have HL0 := Aside0.mk (And.intro y7 (And.intro l0 (And.intro l1 (And.intro l3 (And.intro l5 (And.intro ya yb))))))
            gi_wp2_with (first
              | (refine ⟨trivial, ?_⟩; gi_at_call 12; refine (CallsIn.inRound lp (callsIn_wide.2 (HKO.out _ (by first | exact .inl rfl | exact .inr rfl) _))).mono ?_; rintro e w6 ⟨rfl, hd6⟩; have HB6 := Aside0.mk (show Go.RowKit.Below W.heap.size W w6 from (by first | exact drawn_below hd6 | exact HB6.out.trans ((drawn_below hd6).mono HB6.out.size))); have y7 := cell_up HB6.out HL0.out.1; have l0 := cell_up HB6.out HL0.out.2.1; have l1 := cell_up HB6.out HL0.out.2.2.1; have l3 := cell_up HB6.out HL0.out.2.2.2.1; have l5 := cell_up HB6.out HL0.out.2.2.2.2.1; have ya := cell_up HB6.out HL0.out.2.2.2.2.2.1; have yb := cell_up HB6.out HL0.out.2.2.2.2.2.2; clear hd6))
            have h4b : Go.RowKit.Below W4.heap.size W4 w6 := HX.out.2.2.2.2.1.trans (HB6.out.mono HX.out.2.2.2.2.1.size)
            have u7 := cell_up HB6.out HL0.out.1
            have u0 := cell_up HB6.out HL0.out.2.1
            have u3 := cell_up HB6.out HL0.out.2.2.2.1
            have u5 := cell_up HB6.out HL0.out.2.2.2.2.1
            have ua := cell_up HB6.out HL0.out.2.2.2.2.2.1
            have ub := cell_up HB6.out HL0.out.2.2.2.2.2.2
            have hdu : ∀ z ∈ r.dec, 0 ≤ z ∧ z ≤ 1114111 := HX.out.2.2.2.2.2.2.2.2.2.2
            have hpo : pairOk (a, b_) := by
              rw [HAB.out] at hdu
              have q1 := hdu a (by simp)
              have q2 := hdu b_ (by simp)
              exact ⟨intOk_of (by omega) (by omega), intOk_of (by omega) (by omega)⟩
            have hcase := makes_row hG.rise HG.out.2.1 HX.out.2.2.2.2.2.1 HAB.out
            have hD7b := cell_up h4b HM.out.2.2.1
            have hMb : PairIs w6 Bm l := MapIs.below HM.out.2.2.2.2.2.2 h4b
            have c13 : ∀ d_ os, Calls Tryz.prog 13 #[.pointer (some ⟨D, 0, none⟩), .int .i64 a, .int .i64 b_] (Sort.grow (redrawn w6 d_) os) fun e w'' => e = .returned (.tuple #[.int .i64 ((lookP l (a, b_)).getD 0), .bool (lookP l (a, b_)).isSome]) ∧ ∃ p : Regrown, w'' = Sort.grow (redrawn w6 p.d) p.os := fun d_ os =>
              Calls.regrown_of ((makes_calls D Bm l a b_ _ (cell_regrown hD7b d_ os) (MapIs.below hMb (below_regrown w6 d_ os)) hpo).mono (fun e w'' h => ⟨h.1, h.2 ▸ Go.RowKit.Below.refl _ _⟩))
            have c10 : ∀ Wz, Go.RowKit.Below W4.heap.size W4 Wz → ∀ d_ os, Calls Tryz.prog 10 #[.pointer (some ⟨D, 0, none⟩)] (Sort.grow (redrawn Wz d_) os) fun e w'' => e = .returned (.pointer (some ⟨gu, 0, none⟩)) ∧ ∃ p : Regrown, w'' = Sort.grow (redrawn Wz p.d) p.os := fun Wz hb d_ os =>
              Calls.regrown_of ((unicode_calls D gu _ (cell_regrown (cell_up hb HM.out.1) d_ os)).mono (fun e w'' h => ⟨h.1, h.2 ▸ Go.RowKit.Below.refl _ _⟩))
            have c14a : ∀ Wz, Go.RowKit.Below W4.heap.size W4 Wz → ∀ d_ os, Calls Tryz.prog 14 #[.pointer (some ⟨D, 0, none⟩), .int .i64 r.first] (Sort.grow (redrawn Wz d_) os) fun e w'' => e = .returned (.bool (exS (d.props.getD 0 []) r.first)) ∧ ∃ p : Regrown, w'' = Sort.grow (redrawn Wz p.d) p.os := fun Wz hb d_ os =>
              Calls.regrown_of (excl_calls D g0 W3.heap.size (d.props.getD 0 []) r.first _ (cell_regrown (cell_up hb HM.out.2.1) d_ os) ((HM.out.2.2.2.2.1.below hb).below (below_regrown Wz d_ os)) (Nat.le_trans HM.out.2.2.2.2.2.1.2 (by decide)) HM.out.2.2.2.2.2.1.1)
            have c15a : ∀ Wz, Go.RowKit.Below W4.heap.size W4 Wz → ∀ d_ os, Calls Tryz.prog 15 #[.pointer (some ⟨gu, 0, none⟩), .int .i64 a] (Sort.grow (redrawn Wz d_) os) fun e w'' => e = .returned (.int .i64 (rowAt d.rows a).ccc) ∧ ∃ p : Regrown, w'' = Sort.grow (redrawn Wz p.d) p.os := fun Wz hb d_ os =>
              Calls.regrown_of (cccU_calls W3.heap.size gu d.rows a _ ((HM.out.2.2.2.1.below hb).below (below_regrown Wz d_ os)) (Nat.le_trans hG.len (by decide)) hG.rise)
            obtain ⟨ex, hex⟩ : ∃ ex, ex = exS (d.props.getD 0 []) r.first := ⟨_, rfl⟩
            obtain ⟨qc, hqc⟩ : ∃ qc, qc = (rowAt d.rows a).ccc := ⟨_, rfl⟩
            obtain ⟨lo, hlo⟩ : ∃ lo, lo = lookP l (a, b_) := ⟨_, rfl⟩
            rw [← hex] at c14a hcase
            rw [← hqc] at c15a hcase
            rw [← hlo] at c13 hcase
            have HU := Aside0.mk (And.intro h4b (And.intro u7 (And.intro u0 (And.intro u3 (And.intro u5 (And.intro ua ub))))))
            have k7 := cell_regrown u7
            have k0 := cell_regrown u0
            have k3 := cell_regrown u3
            have k5 := cell_regrown u5
            have ka := cell_regrown ua
            have kb := cell_regrown ub
            clear hex hqc hlo u7 u0 u3 u5 ua ub hdu hpo hD7b hMb h4b y7 l0 l1 l3 l5 ya yb
            have HCS := Aside0.mk (And.intro c10 (And.intro c14a c15a))
            clear c10 c14a c15a
            rcases hcase with ⟨hn, hX⟩ | ⟨c, hc, hX⟩
            · subst hn
              have c13n : ∀ d_ os, Calls Tryz.prog 13 #[.pointer (some ⟨D, 0, none⟩), .int .i64 a, .int .i64 b_] (Sort.grow (redrawn w6 d_) os) fun e w'' => e = .returned (.tuple #[.int .i64 0, .bool false]) ∧ ∃ p : Regrown, w'' = Sort.grow (redrawn w6 p.d) p.os := c13
              clear c13
              by_cases hf0 : r.first = 0
              · have hfb : ((0 : Int) == r.first) = true := beq_iff_eq.2 hf0.symm
                clear hf0
                by_cases hB : r.ccc = 0
                · cases ex with
                  | true =>
                    clear hX
                    refine wpIn_round_quiet_below (by kernel_rfl) (by kernel_rfl) (by rintro ⟨a_, w_, h_⟩; exact h_) (by kernel_rfl) ?_
                    repeat (go_big_quiet_step (exact c13n _ _))
                    refine wpQuiet_nil ?_
                    intro _ hw'
                    obtain ⟨⟨dq, osq⟩, hw''⟩ := hw'
                    subst hw''
                    obtain ⟨Wc, hWc⟩ : ∃ Wc, Wc = Sort.grow (redrawn w6 (⟨dq, osq⟩ : Regrown).d) (⟨dq, osq⟩ : Regrown).os := ⟨_, rfl⟩
                    have h6c : Go.RowKit.Below w6.heap.size w6 Wc := by rw [hWc]; exact below_regrown w6 dq osq
                    rw [← hWc]
                    have h4c := HU.out.1.trans (h6c.mono HU.out.1.size)
                    have m7 := cell_regrown (cell_up h6c HU.out.2.1)
                    have m0 := cell_regrown (cell_up h6c HU.out.2.2.1)
                    have m3 := cell_regrown (cell_up h6c HU.out.2.2.2.1)
                    have m5 := cell_regrown (cell_up h6c HU.out.2.2.2.2.1)
                    have ma := cell_regrown (cell_up h6c HU.out.2.2.2.2.2.1)
                    have mb := cell_regrown (cell_up h6c HU.out.2.2.2.2.2.2)
                    have d10 := HCS.out.1 Wc h4c
                    have d14 := HCS.out.2.1 Wc h4c
                    have d15 := HCS.out.2.2 Wc h4c
                    have H6 := Aside0.mk h6c
                    clear h6c h4c hWc k7 k0 k3 k5 ka kb c13n
                    gi_wp2
                    refine wpIn_round_quiet_below (by kernel_rfl) (by kernel_rfl) (by rintro ⟨a_, w_, h_⟩; exact h_) (by kernel_rfl) ?_
                    repeat (go_big_quiet_step (first | exact d10 _ _ | exact d14 _ _ | exact d15 _ _))
                    refine wpQuiet_nil ?_
                    intro _ hw'
                    obtain ⟨⟨dq, osq⟩, hw''⟩ := hw'
                    subst hw''
                    gi_wp2
                    exact HNX.out _ ((HB6.out.trans (H6.out.mono HB6.out.size)).trans ((below_regrown Wc dq osq).mono (HB6.out.trans (H6.out.mono HB6.out.size)).size))
                  | false =>
                    have hF : (qc == 0) = false := beq_eq_false_iff_ne.2 (fun h => hX ⟨hB, rfl, h⟩)
                    clear hX
                    refine wpIn_round_quiet_below (by kernel_rfl) (by kernel_rfl) (by rintro ⟨a_, w_, h_⟩; exact h_) (by kernel_rfl) ?_
                    repeat (go_big_quiet_step (exact c13n _ _))
                    refine wpQuiet_nil ?_
                    intro _ hw'
                    obtain ⟨⟨dq, osq⟩, hw''⟩ := hw'
                    subst hw''
                    obtain ⟨Wc, hWc⟩ : ∃ Wc, Wc = Sort.grow (redrawn w6 (⟨dq, osq⟩ : Regrown).d) (⟨dq, osq⟩ : Regrown).os := ⟨_, rfl⟩
                    have h6c : Go.RowKit.Below w6.heap.size w6 Wc := by rw [hWc]; exact below_regrown w6 dq osq
                    rw [← hWc]
                    have h4c := HU.out.1.trans (h6c.mono HU.out.1.size)
                    have m7 := cell_regrown (cell_up h6c HU.out.2.1)
                    have m0 := cell_regrown (cell_up h6c HU.out.2.2.1)
                    have m3 := cell_regrown (cell_up h6c HU.out.2.2.2.1)
                    have m5 := cell_regrown (cell_up h6c HU.out.2.2.2.2.1)
                    have ma := cell_regrown (cell_up h6c HU.out.2.2.2.2.2.1)
                    have mb := cell_regrown (cell_up h6c HU.out.2.2.2.2.2.2)
                    have d10 := HCS.out.1 Wc h4c
                    have d14 := HCS.out.2.1 Wc h4c
                    have d15 := HCS.out.2.2 Wc h4c
                    have H6 := Aside0.mk h6c
                    clear h6c h4c hWc k7 k0 k3 k5 ka kb c13n
                    gi_wp2
                    refine wpIn_round_quiet_below (by kernel_rfl) (by kernel_rfl) (by rintro ⟨a_, w_, h_⟩; exact h_) (by kernel_rfl) ?_
                    repeat (go_big_quiet_step (first | exact d10 _ _ | exact d14 _ _ | exact d15 _ _))
                    refine wpQuiet_nil ?_
                    intro _ hw'
                    obtain ⟨⟨dq, osq⟩, hw''⟩ := hw'
                    subst hw''
                    gi_wp2
                    exact HNX.out _ ((HB6.out.trans (H6.out.mono HB6.out.size)).trans ((below_regrown Wc dq osq).mono (HB6.out.trans (H6.out.mono HB6.out.size)).size))
                · have hBb : (r.ccc == 0) = false := beq_eq_false_iff_ne.2 hB
                  clear hX hB
                  refine wpIn_round_quiet_below (by kernel_rfl) (by kernel_rfl) (by rintro ⟨a_, w_, h_⟩; exact h_) (by kernel_rfl) ?_
                  repeat (go_big_quiet_step (exact c13n _ _))
                  refine wpQuiet_nil ?_
                  intro _ hw'
                  obtain ⟨⟨dq, osq⟩, hw''⟩ := hw'
                  subst hw''
                  obtain ⟨Wc, hWc⟩ : ∃ Wc, Wc = Sort.grow (redrawn w6 (⟨dq, osq⟩ : Regrown).d) (⟨dq, osq⟩ : Regrown).os := ⟨_, rfl⟩
                  have h6c : Go.RowKit.Below w6.heap.size w6 Wc := by rw [hWc]; exact below_regrown w6 dq osq
                  rw [← hWc]
                  have h4c := HU.out.1.trans (h6c.mono HU.out.1.size)
                  have m7 := cell_regrown (cell_up h6c HU.out.2.1)
                  have m0 := cell_regrown (cell_up h6c HU.out.2.2.1)
                  have m3 := cell_regrown (cell_up h6c HU.out.2.2.2.1)
                  have m5 := cell_regrown (cell_up h6c HU.out.2.2.2.2.1)
                  have ma := cell_regrown (cell_up h6c HU.out.2.2.2.2.2.1)
                  have mb := cell_regrown (cell_up h6c HU.out.2.2.2.2.2.2)
                  have d10 := HCS.out.1 Wc h4c
                  have d14 := HCS.out.2.1 Wc h4c
                  have d15 := HCS.out.2.2 Wc h4c
                  have H6 := Aside0.mk h6c
                  clear h6c h4c hWc k7 k0 k3 k5 ka kb c13n
                  gi_wp2
                  refine wpIn_round_quiet_below (by kernel_rfl) (by kernel_rfl) (by rintro ⟨a_, w_, h_⟩; exact h_) (by kernel_rfl) ?_
                  repeat (go_big_quiet_step (first | exact d10 _ _ | exact d14 _ _ | exact d15 _ _))
                  refine wpQuiet_nil ?_
                  intro _ hw'
                  obtain ⟨⟨dq, osq⟩, hw''⟩ := hw'
                  subst hw''
                  gi_wp2
                  exact HNX.out _ ((HB6.out.trans (H6.out.mono HB6.out.size)).trans ((below_regrown Wc dq osq).mono (HB6.out.trans (H6.out.mono HB6.out.size)).size))
              · have hfb : ((0 : Int) == r.first) = false := beq_eq_false_iff_ne.2 (fun h => hf0 h.symm)
                clear hf0 hX
                refine wpIn_round_quiet_below (by kernel_rfl) (by kernel_rfl) (by rintro ⟨a_, w_, h_⟩; exact h_) (by kernel_rfl) ?_
                repeat (go_big_quiet_step (exact c13n _ _))
                refine wpQuiet_nil ?_
                intro _ hw'
                obtain ⟨⟨dq, osq⟩, hw''⟩ := hw'
                subst hw''
                obtain ⟨Wc, hWc⟩ : ∃ Wc, Wc = Sort.grow (redrawn w6 (⟨dq, osq⟩ : Regrown).d) (⟨dq, osq⟩ : Regrown).os := ⟨_, rfl⟩
                have h6c : Go.RowKit.Below w6.heap.size w6 Wc := by rw [hWc]; exact below_regrown w6 dq osq
                rw [← hWc]
                have h4c := HU.out.1.trans (h6c.mono HU.out.1.size)
                have m7 := cell_regrown (cell_up h6c HU.out.2.1)
                have m0 := cell_regrown (cell_up h6c HU.out.2.2.1)
                have m3 := cell_regrown (cell_up h6c HU.out.2.2.2.1)
                have m5 := cell_regrown (cell_up h6c HU.out.2.2.2.2.1)
                have ma := cell_regrown (cell_up h6c HU.out.2.2.2.2.2.1)
                have mb := cell_regrown (cell_up h6c HU.out.2.2.2.2.2.2)
                have d10 := HCS.out.1 Wc h4c
                have d14 := HCS.out.2.1 Wc h4c
                have d15 := HCS.out.2.2 Wc h4c
                have H6 := Aside0.mk h6c
                clear h6c h4c hWc k7 k0 k3 k5 ka kb c13n
                gi_wp2
                refine wpIn_round_quiet_below (by kernel_rfl) (by kernel_rfl) (by rintro ⟨a_, w_, h_⟩; exact h_) (by kernel_rfl) ?_
                repeat (go_big_quiet_step (first | exact d10 _ _ | exact d14 _ _ | exact d15 _ _))
                refine wpQuiet_nil ?_
                intro _ hw'
                obtain ⟨⟨dq, osq⟩, hw''⟩ := hw'
                subst hw''
                gi_wp2
                exact HNX.out _ ((HB6.out.trans (H6.out.mono HB6.out.size)).trans ((below_regrown Wc dq osq).mono (HB6.out.trans (H6.out.mono HB6.out.size)).size))
            · subst hc
              have c13s : ∀ d_ os, Calls Tryz.prog 13 #[.pointer (some ⟨D, 0, none⟩), .int .i64 a, .int .i64 b_] (Sort.grow (redrawn w6 d_) os) fun e w'' => e = .returned (.tuple #[.int .i64 c, .bool true]) ∧ ∃ p : Regrown, w'' = Sort.grow (redrawn w6 p.d) p.os := c13
              clear c13
              by_cases hcf : c = r.first
              · obtain ⟨hB, hE, hF⟩ := hX hcf
                subst hcf hE hF
                clear hX
                refine wpIn_round_quiet_below (by kernel_rfl) (by kernel_rfl) (by rintro ⟨a_, w_, h_⟩; exact h_) (by kernel_rfl) ?_
                repeat (go_big_quiet_step (exact c13s _ _))
                refine wpQuiet_nil ?_
                intro _ hw'
                obtain ⟨⟨dq, osq⟩, hw''⟩ := hw'
                subst hw''
                obtain ⟨Wc, hWc⟩ : ∃ Wc, Wc = Sort.grow (redrawn w6 (⟨dq, osq⟩ : Regrown).d) (⟨dq, osq⟩ : Regrown).os := ⟨_, rfl⟩
                have h6c : Go.RowKit.Below w6.heap.size w6 Wc := by rw [hWc]; exact below_regrown w6 dq osq
                rw [← hWc]
                have h4c := HU.out.1.trans (h6c.mono HU.out.1.size)
                have m7 := cell_regrown (cell_up h6c HU.out.2.1)
                have m0 := cell_regrown (cell_up h6c HU.out.2.2.1)
                have m3 := cell_regrown (cell_up h6c HU.out.2.2.2.1)
                have m5 := cell_regrown (cell_up h6c HU.out.2.2.2.2.1)
                have ma := cell_regrown (cell_up h6c HU.out.2.2.2.2.2.1)
                have mb := cell_regrown (cell_up h6c HU.out.2.2.2.2.2.2)
                have d10 := HCS.out.1 Wc h4c
                have d14 := HCS.out.2.1 Wc h4c
                have d15 := HCS.out.2.2 Wc h4c
                have H6 := Aside0.mk h6c
                clear h6c h4c hWc k7 k0 k3 k5 ka kb c13s
                gi_wp2
                refine wpIn_round_quiet_below (by kernel_rfl) (by kernel_rfl) (by rintro ⟨a_, w_, h_⟩; exact h_) (by kernel_rfl) ?_
                repeat (go_big_quiet_step (first | exact d10 _ _ | exact d14 _ _ | exact d15 _ _))
                refine wpQuiet_nil ?_
                intro _ hw'
                obtain ⟨⟨dq, osq⟩, hw''⟩ := hw'
                subst hw''
                gi_wp2
                exact HNX.out _ ((HB6.out.trans (H6.out.mono HB6.out.size)).trans ((below_regrown Wc dq osq).mono (HB6.out.trans (H6.out.mono HB6.out.size)).size))
              · have hcb : (c == r.first) = false := beq_eq_false_iff_ne.2 hcf
                have hcb2 : (c != r.first) = true := bne_iff_ne.2 hcf
                clear hX hcf
                refine wpIn_round_quiet_below (by kernel_rfl) (by kernel_rfl) (by rintro ⟨a_, w_, h_⟩; exact h_) (by kernel_rfl) ?_
                repeat (go_big_quiet_step (exact c13s _ _))
                refine wpQuiet_nil ?_
                intro _ hw'
                obtain ⟨⟨dq, osq⟩, hw''⟩ := hw'
                subst hw''
                obtain ⟨Wc, hWc⟩ : ∃ Wc, Wc = Sort.grow (redrawn w6 (⟨dq, osq⟩ : Regrown).d) (⟨dq, osq⟩ : Regrown).os := ⟨_, rfl⟩
                have h6c : Go.RowKit.Below w6.heap.size w6 Wc := by rw [hWc]; exact below_regrown w6 dq osq
                rw [← hWc]
                have h4c := HU.out.1.trans (h6c.mono HU.out.1.size)
                have m7 := cell_regrown (cell_up h6c HU.out.2.1)
                have m0 := cell_regrown (cell_up h6c HU.out.2.2.1)
                have m3 := cell_regrown (cell_up h6c HU.out.2.2.2.1)
                have m5 := cell_regrown (cell_up h6c HU.out.2.2.2.2.1)
                have ma := cell_regrown (cell_up h6c HU.out.2.2.2.2.2.1)
                have mb := cell_regrown (cell_up h6c HU.out.2.2.2.2.2.2)
                have d10 := HCS.out.1 Wc h4c
                have d14 := HCS.out.2.1 Wc h4c
                have d15 := HCS.out.2.2 Wc h4c
                have H6 := Aside0.mk h6c
                clear h6c h4c hWc k7 k0 k3 k5 ka kb c13s
                gi_wp2
                refine wpIn_round_quiet_below (by kernel_rfl) (by kernel_rfl) (by rintro ⟨a_, w_, h_⟩; exact h_) (by kernel_rfl) ?_
                repeat (go_big_quiet_step (first | exact d10 _ _ | exact d14 _ _ | exact d15 _ _))
                refine wpQuiet_nil ?_
                intro _ hw'
                obtain ⟨⟨dq, osq⟩, hw''⟩ := hw'
                subst hw''
                gi_wp2
                exact HNX.out _ ((HB6.out.trans (H6.out.mono HB6.out.size)).trans ((below_regrown Wc dq osq).mono (HB6.out.trans (H6.out.mono HB6.out.size)).size))
          · have h2z : ¬ ((r.dec.length : Int) = 2) := by omega
            have h2b : ((r.dec.length : Int) == 2) = false := beq_eq_false_iff_ne.2 h2z
            rcases Nat.eq_zero_or_pos r.dec.length with h0 | h0
            · have hcc : (r.ccc != 0) = true := bne_iff_ne.2 (by rcases hor with h | h; exact absurd (List.length_eq_zero_iff.1 h0) h; exact h)
              rw [h0] at l5 ⊢
              clear h0 h2 h2z h2b hor
              gi_wp2_with (first
          | (refine ⟨trivial, ?_⟩; gi_at_call 12; refine (CallsIn.inRound lp (callsIn_wide.2 (HKO.out _ (by first | exact .inl rfl | exact .inr rfl) _))).mono ?_; rintro e w6 ⟨rfl, n6, rfl⟩))
              exact HNX.out _ (below_drewN (Go.RowKit.Below.refl _ _) _)
            · have hne : r.dec ≠ [] := fun h => by rw [h] at h0; cases h0
              clear hor h2
              gi_wp2_with (first
          | (refine ⟨trivial, ?_⟩; gi_at_call 12; refine (CallsIn.inRound lp (callsIn_wide.2 (HKO.out _ (by first | exact .inl rfl | exact .inr rfl) _))).mono ?_; rintro e w6 ⟨rfl, n6, rfl⟩))
              exact HNX.out _ (below_drewN (Go.RowKit.Below.refl _ _) _)
      case done =>
        rintro W hI hW hDf
        have h4W : Go.RowKit.Below W4.heap.size W4 W := HI.out.1.trans (hI.mono HI.out.1.size)
        have h4s := HG.out.2.2.2.2
        have hs3 := HX3.out
        have rW := (h4W.block _ (blk_lt HG.out.2.2.1)).trans HG.out.2.2.1
        have y7 : W.cell? ⟨W4.heap.size, 0, none⟩ = some (.pointer (some ⟨D, 0, none⟩)) := (blk_cell ((hI.block _ (blk_lt HI.out.2.2.2)).trans HI.out.2.2.2) 0).trans rfl
        have yr : W.cell? ⟨w.heap.size + 1, 0, none⟩ = some (.bool false) := (blk_cell rW 0).trans rfl
        have zr := blk_frozen rW 0
        have CM := makes_calls D Bm l x y W (cell_up h4W HM.out.2.2.1) (MapIs.below HM.out.2.2.2.2.2.2 h4W) ⟨HT.out.2.1, HT.out.2.2.1⟩
        have hwW : Go.RowKit.Below w.heap.size w W := HG.out.2.2.2.1.trans (h4W.mono HG.out.2.2.2.1.size)
        have hDl := (Array.getElem?_eq_some_iff.1 hDf).1
  

        have HJ := Aside0.mk (And.intro rW (And.intro hwW (And.intro hDf (And.intro h4W hDl))))
        cases hlo : lookP l (x, y) with
        | none =>
          rw [hlo] at CM
          have CM2 : Calls Tryz.prog 13 #[.pointer (some ⟨D, 0, none⟩), .int .i64 x, .int .i64 y] W fun e w' => e = .returned (.tuple #[.int .i64 0, .bool false]) ∧ w' = W := CM
          have HCM := Aside0.mk CM2
          clear CM CM2 hlo hI hW hDf rW hwW h4W hDl h4s hs3
          gi_wp2
          go_wp2_with (first
            | (go_at_call 13; refine HCM.out.mono ?_; rintro e W6 ⟨rfl, rfl⟩))
          obtain ⟨rW, hwW, hDf, h4W, hDl⟩ := HJ.out
          have hs3 := HX3.out
          have hs1 := HBX.out.2.2.2
          have h4s := HG.out.2.2.2.2
          have hsr := HI.out.2.2.1
          refine ⟨by simp, .inl ⟨_, _, rfl, run_takeDeferred ((Go.RowKit.Below.heap_setCell W6 ⟨w.heap.size + 1, 0, none⟩ _ _ (by show Wr.heap.size ≠ w.heap.size + 1; omega)).trans hDf), ?_⟩⟩
          refine ⟨_, results_bool rfl _ _ ⟨w.heap.size + 1, 0, none⟩ true rfl ((blk_cell ((World.putObj_heap_other (by omega)).trans (blk_set rW 0 (.bool true))) 0).trans rfl), rfl, ?_⟩
          exact (hwW.setCell (p := ⟨w.heap.size + 1, 0, none⟩) (by show w.heap.size ≤ w.heap.size + 1; omega) _).trans (below_put _ Wr.heap.size w.heap.size _ (by omega))
        | some c =>
          rw [hlo] at CM
          have CM2 : Calls Tryz.prog 13 #[.pointer (some ⟨D, 0, none⟩), .int .i64 x, .int .i64 y] W fun e w' => e = .returned (.tuple #[.int .i64 c, .bool true]) ∧ w' = W := CM
          have hdec := makes_dec hG.rise HG.out.2.1 hlo
          have HCM := Aside0.mk (And.intro CM2 (And.intro hdec (HM.out.2.2.2.1.below h4W)))
          have yD0 := cell_up h4W HM.out.1
          clear CM CM2 hlo hI hW hDf rW hwW h4W hDl h4s hs3 hdec
          gi_wp2
          go_wp2_with (first
            | (go_at_call 13; refine HCM.out.1.mono ?_; rintro e W6 ⟨rfl, rfl⟩)
            | (go_at_call 10; refine (unicode_calls D gu _ yD0).mono ?_; rintro e W7 ⟨rfl, rfl⟩)
            | (go_at_call 17; refine (decU_calls W3.heap.size gu d.rows c _ HCM.out.2.2 (Nat.le_trans hG.len (by decide)) hG.rise (by rw [HCM.out.2.1]; simp)).mono ?_; rintro e W8 ⟨v8, rfl, hR8, hB8⟩; rw [HCM.out.2.1] at hR8; obtain ⟨A8, c8, rfl, hc8, hC8⟩ := Kd.R_reads hR8; have hr8 := (hB8.block _ (blk_lt HJ.out.1)).trans HJ.out.1; have y8 : ∀ o, (W8.alloc o).cell? ⟨w.heap.size + 1, 0, none⟩ = some (.bool false) := (fun o => cell_grows9 ((blk_cell hr8 0).trans rfl)); have H8 := Aside0.mk (And.intro hC8 (And.intro hB8 (And.intro hc8 hr8))); clear hR8 hB8 hC8 hc8 hr8)
            | (go_at_call 16; refine (Go.Proofs.YtebgebgkieglhaaGreatDoor.PU.paronymref01_Same.calls 6 A8 c8 [x, y] (some ⟨W8.heap.size, 0, none⟩) 2 [x, y] true _ (Kd.C_below H8.out.1 (below_alloc (Go.RowKit.Below.refl _ _) _)) H8.out.2.2.1 (C_lit (heap_alloc_new _ _) (by simp)) (Nat.le_refl _) (ref_same [x, y] (by simp) 6 (by simp))).mono ?_; rintro e W9 ⟨rfl, hd9⟩; have hb9 : Go.RowKit.Below W8.heap.size W8 W9 := (below_alloc (Go.RowKit.Below.refl _ _) _).trans ((drawn_below hd9).mono (by simp)); have hr9 := (hb9.block _ (blk_lt H8.out.2.2.2)).trans H8.out.2.2.2; have y9 : W9.cell? ⟨w.heap.size + 1, 0, none⟩ = some (.bool false) := (blk_cell hr9 0).trans rfl; have z9 := blk_frozen hr9 0; have H9 := Aside0.mk (And.intro hb9 hr9); clear hb9 hd9 hr9))
          obtain ⟨hC8, hB8, hc8, hr8⟩ := H8.out
          obtain ⟨rW, hwW, hDf, h4W, hDl⟩ := HJ.out
          have hs3 := HX3.out
          have hs1 := HBX.out.2.2.2
          have h4s := HG.out.2.2.2.2
          have hsr := HI.out.2.2.1
          have hb79 : Go.RowKit.Below W7.heap.size W7 W9 := hB8.trans (H9.out.1.mono hB8.size)
          have r9 := (hb79.block _ (blk_lt rW)).trans rW
          have hD9 := (hb79.block _ hDl).trans hDf
          refine ⟨by simp, .inl ⟨_, _, rfl, run_takeDeferred ((Go.RowKit.Below.heap_setCell W9 ⟨w.heap.size + 1, 0, none⟩ _ _ (by show Wr.heap.size ≠ w.heap.size + 1; omega)).trans hD9), ?_⟩⟩
          refine ⟨_, results_bool rfl _ _ ⟨w.heap.size + 1, 0, none⟩ true rfl ((blk_cell ((World.putObj_heap_other (by omega)).trans (blk_set r9 0 (.bool true))) 0).trans rfl), rfl, ?_⟩
          exact ((hwW.trans (hb79.mono hwW.size)).setCell (p := ⟨w.heap.size + 1, 0, none⟩) (by show w.heap.size ≤ w.heap.size + 1; omega) _).trans (below_put _ Wr.heap.size w.heap.size _ (by omega))
      case stop => exact fun c pre x r W hx hI hDf => hI.elim
end Go.Proofs.YtebgebgkieglhaaGreatDoor.FieldW
end
section
/- What the row's reading of an argument says, kind by kind: the print's own forms (Kd.K, Kd.V) from 'DataW.trod'. -/
namespace Go.Proofs.YtebgebgkieglhaaGreatDoor.OpenKd
open Go.ChangeShapes Go.WideShapes Go.ChangeAt Go.RowKit Go.Proofs.YtebgebgkieglhaaGreatDoorW.PrintWords
set_option linter.unusedVariables false
section
variable {H : Type} (enc : TypeId × Value → H) (P : Program) (w : World) (base : Nat) (spare : Nat → Bool) (held : Bool)
/-- Whatever reads as of type t is of the kind. -/
def Opn {α : Type} (d : Kd α) (Q : α → Prop) (t : TypeId) : Prop := ∀ fuel cs x, DataW.trod enc P w base spare held fuel t cs = some x → ∃ a, d.K w a cs ∧ Q a
/-- The same for a struct's fields from the cell off on. -/
def OpnF {α : Type} (d : Kd α) (Q : α → Prop) (fs : List Field) (off : Nat) : Prop := ∀ (fuel : Nat) (cs : List Value), (∀ f ∈ fs, ∃ x, DataW.trod enc P w base spare held fuel f.type ((cs.drop f.offset).take (P.cellsOf f.type)) = some x) → cs.length = off + d.sz → ∃ a, d.K w a (cs.drop off) ∧ Q a
end
section
variable {H : Type} {enc : TypeId × Value → H} {P : Program} {w : World} {base : Nat} {spare : Nat → Bool} {held : Bool}
theorem opn_int {t : TypeId} {k : IntKind} (ht : P.underlying t = some (.int k)) : Opn enc P w base spare held (Kd.int k) (fun n => (Lit.int k n).wf = true) t := by
  intro fuel cs x h
  obtain ⟨m, rfl, rfl, hw⟩ := DataW.trod_int ht h
  exact ⟨m, rfl, hw⟩
/-- Each of a row's elements, chosen. -/
theorem choose_row {α : Type} {R : Nat → α → Prop} : ∀ n, (∀ i, i < n → ∃ a, R i a) → ∃ l : List α, l.length = n ∧ ∀ i a, l[i]? = some a → R i a
  | 0, _ => ⟨[], rfl, fun i a h => by simp at h⟩
  | n + 1, h => by
    obtain ⟨l, hl, hr⟩ := choose_row n (fun i hi => h i (by omega))
    obtain ⟨a, ha⟩ := h n (by omega)
    refine ⟨l ++ [a], by simp [hl], fun i b hb => ?_⟩
    rcases Nat.lt_or_ge i n with hi | hi
    · rw [List.getElem?_append_left (by omega)] at hb
      exact hr i b hb
    · rw [List.getElem?_append_right (by omega), hl] at hb
      have : i = n := by
        rcases Nat.lt_or_ge (i - n) 1 with h1 | h1
        · omega
        · rw [List.getElem?_eq_none (by simpa using h1)] at hb; cases hb
      subst this
      simp at hb
      subst hb
      exact ha
theorem add_add (a : Addr) (i j : Nat) : w.cell? ((a.add i).add j) = w.cell? (a.add (i + j)) := by
  unfold Addr.add
  by_cases h1 : i = 0
  · subst h1; simp
  · by_cases h2 : j = 0
    · subst h2; simp
    · simp [h1, h2, Nat.add_assoc]
theorem opn_slice {α : Type} {d : Kd α} {Q : α → Prop} {t e : TypeId} (e0 : Nat) (ht : P.underlying t = some (.slice e)) (hsz : P.cellsOf e = d.sz) (h : Opn enc P w base spare held d Q e) :
    Opn enc P w base spare held (Kd.slice e0 d) (fun l => l.length ≤ maxLen ∧ ∀ x ∈ l, Q x) t := by
  intro fuel cs x hx
  rcases DataW.trod_slice ht hx with ⟨rfl, -⟩ | ⟨a, len, cap, elems, rest, n, -, rfl, -, -, hl, hm, hlen, hel, -⟩
  · exact ⟨[], ⟨none, 0, rfl, Nat.le_refl _, Kd.C_nil d w⟩, by simp, by simp⟩
  · have each : ∀ i, i < len → ∃ y : α, (∃ c, c.length = d.sz ∧ d.K w y c ∧ ∀ j u, c[j]? = some u → w.cell? (a.add (i * d.sz + j)) = some u) ∧ Q y := by
      intro i hi
      have h1 := hel i hi
      rw [List.getElem?_eq_getElem (by omega), Option.bind_eq_some_iff] at h1
      obtain ⟨c, hc, hc2⟩ := h1
      obtain ⟨y, hy, hq⟩ := h n c _ hc2
      refine ⟨y, ⟨c, d.K_len hy, hy, fun j u hj => ?_⟩, hq⟩
      obtain ⟨-, hcl, hcell⟩ := World.cells?_some hc
      have hjl := (List.getElem?_eq_some_iff.1 hj).1
      have := hcell j (by omega)
      rw [add_add, hsz] at this
      rw [this, hj]
    obtain ⟨l, hll, hlr⟩ := choose_row len each
    refine ⟨l, ⟨some a, cap, by rw [hll], by omega, by rw [hll]; exact ⟨hll, by unfold maxLen at hm; omega, fun _ => ⟨a, rfl, fun j p hj => (hlr j p hj).1⟩⟩⟩, by omega, fun y hy => ?_⟩
    obtain ⟨j, hj⟩ := List.getElem?_of_mem hy
    exact (hlr j y hj).2
theorem opnF_one {α : Type} {d : Kd α} {Q : α → Prop} {f : Field} {off : Nat} (ho : f.offset = off) (hsz : P.cellsOf f.type = d.sz) (h : Opn enc P w base spare held d Q f.type) : OpnF enc P w base spare held d Q [f] off := by
  intro fuel cs hx hl
  obtain ⟨x, hx⟩ := hx f (by simp)
  obtain ⟨a, ha, hq⟩ := h fuel _ x hx
  refine ⟨a, ?_, hq⟩
  rw [ho, hsz, List.take_of_length_le (by simp; omega)] at ha
  exact ha
theorem opnF_cons {α β : Type} {d : Kd α} {d' : Kd β} {Q : α → Prop} {Q' : β → Prop} {f : Field} {fs : List Field} {off : Nat} (ho : f.offset = off) (hsz : P.cellsOf f.type = d.sz) (h : Opn enc P w base spare held d Q f.type)
    (h' : OpnF enc P w base spare held d' Q' fs (off + d.sz)) : OpnF enc P w base spare held (Kd.pair d d') (fun p => Q p.1 ∧ Q' p.2) (f :: fs) off := by
  intro fuel cs hx hl
  have hl' : cs.length = off + (d.sz + d'.sz) := hl
  obtain ⟨x, hx0⟩ := hx f (by simp)
  obtain ⟨a, ha, hq⟩ := h fuel _ x hx0
  obtain ⟨b, hb, hq'⟩ := h' fuel cs (fun g hg => hx g (by simp [hg])) (by omega)
  refine ⟨(a, b), ⟨(cs.drop off).take d.sz, (cs.drop off).drop d.sz, (List.take_append_drop _ _).symm, ?_, ?_⟩, hq, hq'⟩
  · rw [ho, hsz] at ha; exact ha
  · rw [List.drop_drop]; exact hb
theorem opn_struct {α : Type} {d : Kd α} {Q : α → Prop} {t : TypeId} {fs : Array Field} (ht : P.underlying t = some (.struct fs)) (hsz : P.cellsOf t = d.sz) (h : OpnF enc P w base spare held d Q fs.toList 0) : Opn enc P w base spare held d Q t := by
  intro fuel cs x hx
  obtain ⟨xs, n, -, -, hl, hls, hf⟩ := DataW.trod_struct ht hx
  obtain ⟨a, ha, hq⟩ := h n cs (fun f hm => by
    obtain ⟨i, hi⟩ := List.getElem?_of_mem hm
    have hi2 : fs[i]? = some f := by simpa using hi
    have := hf i f hi2
    have hlt : i < xs.length := by have := (Array.getElem?_eq_some_iff.1 hi2).1; omega
    rw [List.getElem?_eq_getElem hlt] at this
    exact ⟨_, this⟩) (by omega)
  exact ⟨a, by simpa using ha, hq⟩
/-- A slice, as a walk that asks for its reading alone wants it. -/
theorem Opn.C {α : Type} {d : Kd α} {Q : List α → Prop} {t : TypeId} {v : Value} {x : DataW H} {ps : List MemPlace} (e0 : Nat) (h : Opn enc P w base spare held (Kd.slice e0 d) Q t) (hv : v.cells.toList = [v])
    (hx : DataW.Trod enc P w base spare held t v x ps) : ∃ A c l, v = .slice A l.length c ∧ Q l ∧ l.length ≤ c ∧ Kd.C d w A l.length l := by
  obtain ⟨fuel, hx⟩ := hx
  rw [hv] at hx
  obtain ⟨l, ⟨A, c, he, hl, hC⟩, hq⟩ := h _ _ _ hx
  injection he with he
  exact ⟨A, c, l, he, hq, hl, hC⟩
/-- A slice, as the walk of a law wants it. -/
theorem Opn.V {α : Type} {d : Kd α} {Q : List α → Prop} {t : TypeId} {v : Value} {x : DataW H} {ps : List MemPlace} (e0 : Nat) (hd : Kd.Heap d) (h : Opn enc P w base spare held (Kd.slice e0 d) Q t) (hv : v.cells.toList = [v])
    (hx : DataW.Trod enc P w base spare held t v x ps) : ∃ A c l, v = .slice A l.length c ∧ Q l ∧ Kd.V d e0 w w.heap.size (fun _ => True) (.slice A l.length c) l := by
  obtain ⟨fuel, hx⟩ := hx
  rw [hv] at hx
  obtain ⟨l, ⟨A, c, he, hl, hC⟩, hq⟩ := h _ _ _ hx
  injection he with he
  exact ⟨A, c, l, he, hq, Kd.V_mk hl (fun W' hW => hd.C (fun k hk => hW k trivial hk) hC)⟩
end
end Go.Proofs.YtebgebgkieglhaaGreatDoor.OpenKd
end
