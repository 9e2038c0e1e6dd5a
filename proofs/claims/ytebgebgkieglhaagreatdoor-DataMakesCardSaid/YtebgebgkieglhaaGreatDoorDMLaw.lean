/- What is proved: whatever the bundle and the two numbers, DataMakes returns true and the input reads behind it as it did before; the card ties the listed variables to the program's text. Conditions: none beyond the given statement (the row lists nine package-level variables; the tie is given). -/
import Derived.Test.YtebgebgkieglhaaGreatDoorCards
import Derived.Test.YtebgebgkieglhaaGreatDoorTie
import Derived.Test.YtebgebgkieglhaaGreatDoorDM12
import Derived.WalkKit
import Derived.ProofKit
import Derived.OpenShut
import Derived.ShutString
import Derived.ChangeOld
import Derived.Below
import Derived.Carry
import Derived.SizedLaws
import Derived.LaidMore
import Derived.Lay
import Derived.Lib.LaidTab
import Derived.Lib.LaidU8
import Derived.SevenTiedAt
import Derived.Stop.Joined
import Derived.Stop.LaidErr
import Derived.ChangeMaps5
import Derived.Handed
import Derived.HandedShaped
import Derived.Shelf.Vars
namespace Go.Proofs.YtebgebgkieglhaaGreatDoor.dataMakes
open Go Go.ChangeShapes Go.WideShapes Go.ChangeAt Go.RowKit
open Go.Proofs.YtebgebgkieglhaaGreatDoor Go.Proofs.YtebgebgkieglhaaGreatDoor.FieldW Go.Proofs.YtebgebgkieglhaaGreatDoorW.PrintWords
set_option linter.unusedVariables false
theorem own : ownKnob Tryz.prog.godebug = none := by kernel_rfl
theorem lay0 : laidOutB Tryz.prog = true := by kernel_rfl
/-- As the kit's 'returnsInHanded_of_change_and', the world's shape kept. -/
theorem handed_and_shaped {H : Type} {enc : TypeId × Value → H} {a : Assume} {C : Checked} {os : Os} {f : FuncId} {fn : Func} {s : ChangeSpec} {conds : List PathCond} {apart fresh handsOn again : Bool} {X : World → Array Value → Prop}
    (hX : ∀ (w w' : World) (args : Array Value), w.heap = w'.heap → X w args → X w' args)
    (own : ownKnob C.prog.godebug = none) (started : os.Started) (noInit : C.prog.inits.idxOf? f = none) (hfn : C.prog.funcs[f]? = some fn)
    (witness : ∃ (w : World) (tape : Tape) (i : Input), w.os = os ∧ (w.forCall tape i).Shaped C.prog ∧ i.vars = [] ∧ Input.okWide C.prog (w.forCall tape i) .any w.heap.size f i ∧
      ((s.pre enc C.prog fn conds apart (w.forCall tape i).memory i.args ∧ X (w.forCall tape i).memory i.args) ∧ sizedMet enc C.prog fn (OpenSpec.ofChange s) apart (w.forCall tape i).memory i.args) ∧ a.holds C.prog (lone (Frame.enter C.prog f i.args .normal) [] (w.forCall tape i)))
    (contract : ∀ (W : World) (base : Nat) (args : Array Value) (ds gs : List (DataW H)) (before : List MemPlace),
      (∀ (j : Nat) t v, fn.params[j]? = some t → args[j]? = some v → Value.okWide C.prog W .any base t v) →
      DataW.Whole enc C.prog fn.params.toList s.vars apart W args.toList ds gs before →
      conds.all (PathCond.test C.prog ⟨fn.params.toList, ds, s.plain.varTypes C.prog, gs⟩) = true →
      (DataW.weightsEach C.prog (fn.params.toList ++ s.plain.varTypes C.prog) (ds ++ gs)).all (· ≤ reachBytes) = true → W.ShapedOpen C.prog → X W args →
      a.holds C.prog (lone (Frame.enter C.prog f args .normal) [] W) →
      Calls C.prog f args W fun e W' => ∃ v, e = .returned v ∧ s.post enc C.prog fn apart fresh handsOn again W args v W') :
    ReturnsInHanded a C os f .any (fun w args => (s.pre enc C.prog fn conds apart w args ∧ X w args) ∧ sizedMet enc C.prog fn (OpenSpec.ofChange s) apart w args) (s.post enc C.prog fn apart fresh handsOn again) := by
  refine returnsInHanded_of_calls own started noInit witness ?_
  intro w tape i _ hsh _ hok hpre hholds
  obtain ⟨_, _, _, fn', hfn', _, _, _, _, hval⟩ := hok
  have e : fn' = fn := Option.some.inj (hfn'.symm.trans hfn)
  subst e
  obtain ⟨⟨⟨ds, gs, before, hw, hc⟩, hx⟩, hz⟩ := hpre
  have hw' := DataW.Whole.of_heap (w' := w.forCall tape i) (by rfl) hw
  refine (contract (w.forCall tape i) w.heap.size i.args ds gs before hval hw' hc (hz.weights hw) hsh (hX _ _ _ (by rfl) hx) hholds).mono fun e W' ⟨v, he, hp⟩ => ?_
  subst he
  exact ChangeSpec.post_blind hp
/-- The number table of 64 places. -/
def tab64 : List Int := [0, 1, 56, 2, 57, 49, 28, 3, 61, 58, 42, 50, 38, 29, 17, 4, 62, 47, 59, 36, 45, 43, 51, 22, 53, 39, 33, 30, 24, 18, 12, 5, 63, 55, 48, 27, 60, 41, 37, 16, 46, 35, 44, 21, 52, 32, 23, 11, 54, 26, 40, 15, 34, 20, 31, 10, 25, 14, 19, 9, 13, 8, 7, 6]
theorem tab64_eq : (Rows.laid_math_bits_deBruijn64tab : DataW Unit) = Lib.tabData .u8 tab64 := rfl
theorem pow_eq : (Rows.laid_internal_strconv_uint64pow10 : DataW Unit) = Lib.tabData .u64 Lib.pow10Tab := by kernel_rfl
theorem g64 : Tryz.prog.globalNamed "math/bits.deBruijn64tab" = some 9 := by kernel_rfl
theorem gP : Tryz.prog.globalNamed "internal/strconv.uint64pow10" = some 7 := by kernel_rfl
theorem gS : Tryz.prog.globalNamed "strconv.ErrSyntax" = some 4 := by kernel_rfl
theorem gR : Tryz.prog.globalNamed "strconv.ErrRange" = some 5 := by kernel_rfl
theorem gH : Tryz.prog.globalNamed "paronym/data.hangul" = some 0 := by kernel_rfl
theorem gM : Tryz.prog.globalNamed "internal/bytealg.MaxLen" = some 1 := by kernel_rfl
theorem ty64 : (Tryz.prog.globals[9]?).map (·.type) = some 286 := by kernel_rfl
theorem tyP : (Tryz.prog.globals[7]?).map (·.type) = some 270 := by kernel_rfl
theorem tyS : (Tryz.prog.globals[4]?).map (·.type) = some 207 := by kernel_rfl
theorem tyR : (Tryz.prog.globals[5]?).map (·.type) = some 207 := by kernel_rfl
theorem tyH : (Tryz.prog.globals[0]?).map (·.type) = some 110 := by kernel_rfl
theorem iface_cell {W : World} {n nm : String} {d : DataW Unit} {g ti : Nat} {ms : Array (String × TypeId)} (h : Lib.VarReads Tryz.prog W n (.iface nm d)) (hg : Tryz.prog.globalNamed n = some g) (hty : (Tryz.prog.globals[g]?).map (·.type) = some ti) (hi : Tryz.prog.underlying ti = some (.interface ms)) :
    ∃ ev, W.cell? ⟨g, 0, none⟩ = some ev ∧ (ev = .nilIface ∨ ∃ te pe, ev = .iface te pe) := by
  obtain ⟨g', t, cs, fuel, p, h1, h2, h3, h4⟩ := h
  obtain rfl := Option.some.inj (hg.symm.trans h1)
  obtain rfl := Option.some.inj (hty.symm.trans h2)
  have hc := World.var?_cell hg h3 0
  cases fuel with
  | zero => simp [DataW.trod] at h4
  | succ fuel =>
    unfold DataW.trod at h4
    rw [hi] at h4
    obtain ⟨l⟩ := cs
    rcases l with _ | ⟨v, r⟩
    · simp at h4
    · refine ⟨v, by rw [hc]; rfl, ?_⟩
      cases v <;> first
        | exact .inl rfl
        | exact .inr ⟨_, _, rfl⟩
        | (cases r <;> simp at h4)
theorem tabs_of {W : World} (hL : laidMetH Tryz.prog Rows.dataMakesRow.laid W) (hS : W.ShapedOpen Tryz.prog) : Tabs W := by
  rw [MakeChecks.laidMetH_plain _ _ _ (by kernel_rfl)] at hL
  have e64 := laidMet.tail hL
  have eP := laidMet.tail e64
  rw [tab64_eq] at e64
  rw [pow_eq] at eP
  have h64 := Lib.tabIs_of_head g64 (t := 286) (e := 5) (n := 64) ty64 Tryz.underlying286 Tryz.underlying5 (by kernel_rfl) (by kernel_rfl) e64
  have hP := Lib.tabIs_of_head gP (t := 270) (e := 241) (n := 20) tyP Tryz.underlying270 Tryz.underlying241 (by kernel_rfl) (by kernel_rfl) eP
  have hb := h64.cell g64 15 (by decide)
  have hM := cell_of_shapedOpen_int (k := .i64) (g := 1) (t := 3) hS (of_decide_eq_true (by kernel_rfl)) (zero := #[.int .i64 0]) (by kernel_rfl) rfl (by kernel_rfl) (by kernel_rfl) Tryz.underlying3
  have rS := Lib.laidMet.reads hL (n := "strconv.ErrSyntax") (d := Rows.laid_strconv_ErrSyntax) (by simp [Rows.dataMakesRow])
  have rR := Lib.laidMet.reads hL (n := "strconv.ErrRange") (d := Rows.laid_strconv_ErrRange) (by simp [Rows.dataMakesRow])
  have rH := Lib.laidMet.reads hL (n := "paronym/data.hangul") (d := Rows.laid_paronym_data_hangul) (by simp [Rows.dataMakesRow])
  refine ⟨hb, hM, iface_cell rS gS tyS Tryz.underlying207, iface_cell rR gR tyR Tryz.underlying207, hP, ?_, World.block_lt_of_cell? W _ hb⟩
  obtain ⟨g', t, cs, fuel, p, h1, h2, h3, h4⟩ := rH
  obtain rfl := Option.some.inj (gH.symm.trans h1)
  obtain rfl := Option.some.inj (tyH.symm.trans h2)
  have hel : ∀ i, i < 4 → ∀ zs : List Int, (match (Rows.laid_paronym_data_hangul : DataW Unit) with | .agg ds => ds[i]? | _ => none) = some (.agg (zs.map fun z => .lit (.int .i64 z))) → (cs.toList.drop (i * 2)).take 2 = zs.map fun z => Value.int .i64 z := by
    intro i hi zs hz
    obtain ⟨fuel', d, q, hd, hx⟩ := Lib.array_elem Tryz.underlying110 h4 i hi
    have : d = .agg (zs.map fun z => .lit (.int .i64 z)) := by
      have hz2 : ([.agg [.lit (.int .i64 4352), .lit (.int .i64 4370)], .agg [.lit (.int .i64 4449), .lit (.int .i64 4469)], .agg [.lit (.int .i64 4520), .lit (.int .i64 4546)], .agg [.lit (.int .i64 44032), .lit (.int .i64 55203)]] : List (DataW Unit))[i]? = _ := hz
      rw [hd] at hz2
      exact Option.some.inj hz2
    rw [this, show Tryz.prog.cellsOf 109 = 2 by kernel_rfl] at hx
    exact Lib.cells_of_tab (n := 2) Tryz.underlying109 Tryz.underlying3 (by kernel_rfl) (by kernel_rfl) hx
  have e0 := hel 0 (by decide) [4352, 4370] rfl
  have e1 := hel 1 (by decide) [4449, 4469] rfl
  have e2 := hel 2 (by decide) [4520, 4546] rfl
  have e3 := hel 3 (by decide) [44032, 55203] rfl
  intro i x hx
  have hc := World.var?_cell gH h3 i
  have q : ∀ (k j : Nat) (zs : List Int), j < 2 → (cs.toList.drop (k * 2)).take 2 = zs.map (fun z => Value.int .i64 z) → cs.toList[k * 2 + j]? = (zs.map (fun z => Value.int .i64 z))[j]? := by
    intro k j zs hj h
    rw [← h, List.getElem?_take_of_lt hj, List.getElem?_drop]
  rw [hc, ← Array.getElem?_toList]
  rcases i with _ | _ | _ | _ | _ | _ | _ | _ | i
  · rw [q 0 0 _ (by decide) e0]; injection hx with hx; subst hx; rfl
  · rw [q 0 1 _ (by decide) e0]; injection hx with hx; subst hx; rfl
  · rw [q 1 0 _ (by decide) e1]; injection hx with hx; subst hx; rfl
  · rw [q 1 1 _ (by decide) e1]; injection hx with hx; subst hx; rfl
  · rw [q 2 0 _ (by decide) e2]; injection hx with hx; subst hx; rfl
  · rw [q 2 1 _ (by decide) e2]; injection hx with hx; subst hx; rfl
  · rw [q 3 0 _ (by decide) e3]; injection hx with hx; subst hx; rfl
  · rw [q 3 1 _ (by decide) e3]; injection hx with hx; subst hx; rfl
  · cases hx
/-- Octets that a number each stands for. -/
theorem octets {l : List Int} (h : ∀ x ∈ l, (Lit.int .u8 x).wf = true) : ∃ f : List UInt8, numB f = l := by
  refine ⟨l.map (fun x => UInt8.ofNat x.toNat), ?_⟩
  unfold numB
  rw [List.map_map]
  conv => rhs; rw [← List.map_id l]
  refine List.map_congr_left (fun x hx => ?_)
  have hw := h x hx
  have h1 : 0 ≤ x ∧ x ≤ 255 := by
    have h2 : IntKind.u8.min ≤ x ∧ x ≤ IntKind.u8.max := by simpa [Lit.wf] using hw
    exact h2
  show (((UInt8.ofNat x.toNat).toNat : Nat) : Int) = x
  rw [UInt8.toNat_ofNat']
  omega
section
variable {H : Type} {enc : TypeId × Value → H} {w : World} {base : Nat} {spare : Nat → Bool} {held : Bool}
abbrev kB : Kd (List Int) := Kd.slice 5 (Kd.int .u8)
def okB (l : List Int) : Prop := l.length ≤ maxLen ∧ ∀ x ∈ l, (Lit.int .u8 x).wf = true
theorem opnB : OpenKd.Opn enc Tryz.prog w base spare held kB okB 22 := OpenKd.opn_slice 5 Tryz.underlying22 (by kernel_rfl) (OpenKd.opn_int Tryz.underlying5)
theorem opnBun : OpenKd.Opn enc Tryz.prog w base spare held (Kd.pair kB (Kd.pair kB (Kd.pair kB (Kd.pair kB (Kd.pair kB (Kd.pair kB kB)))))) (fun p => okB p.1 ∧ okB p.2.1 ∧ okB p.2.2.1 ∧ okB p.2.2.2.1 ∧ okB p.2.2.2.2.1 ∧ okB p.2.2.2.2.2.1 ∧ okB p.2.2.2.2.2.2) 24 :=
  OpenKd.opn_struct Tryz.underlying24 (by kernel_rfl) (OpenKd.opnF_cons rfl (by kernel_rfl) opnB (OpenKd.opnF_cons rfl (by kernel_rfl) opnB (OpenKd.opnF_cons rfl (by kernel_rfl) opnB (OpenKd.opnF_cons rfl (by kernel_rfl) opnB (OpenKd.opnF_cons rfl (by kernel_rfl) opnB (OpenKd.opnF_cons rfl (by kernel_rfl) opnB (OpenKd.opnF_one rfl (by kernel_rfl) opnB)))))))
end
theorem bytes5 : Tryz.prog.bytesOf 5 = 1 := by kernel_rfl
set_option maxRecDepth 100000 in
theorem bun_len {H : Type} {enc : TypeId × Value → H} {w : World} {base : Nat} {spare : Nat → Bool} {held : Bool} {fuel : Nat} {cs : List Value} {x : DataW H × List MemPlace} (h : DataW.trod enc Tryz.prog w base spare held fuel 24 cs = some x) (hz : ∀ n ∈ x.1.weights Tryz.prog 24, n ≤ reachBytes) (i : Nat) (hi : i < 7) {A : Option Addr} {n c : Nat} (hc : cs[i]? = some (.slice A n c)) : n ≤ 281474976710656 := by
  obtain ⟨xs, n0, rfl, rfl, hl, hls, hf⟩ := DataW.trod_struct Tryz.underlying24 h
  have hfi : ∃ f : Field, (match Tryz.prog.underlying 24 with | some (.struct fs) => fs[i]? | _ => none) = some f ∧ f.type = 22 ∧ f.offset = i := by
    rw [Tryz.underlying24]
    obtain rfl | rfl | rfl | rfl | rfl | rfl | rfl : i = 0 ∨ i = 1 ∨ i = 2 ∨ i = 3 ∨ i = 4 ∨ i = 5 ∨ i = 6 := by omega
    all_goals exact ⟨_, rfl, rfl, rfl⟩
  obtain ⟨f, hfe, hft, hfo⟩ := hfi
  rw [Tryz.underlying24] at hfe
  have hx := hf i f hfe
  rw [hft, hfo] at hx
  have hd : (cs.drop i).take (Tryz.prog.cellsOf 22) = [.slice A n c] := by
    rw [show Tryz.prog.cellsOf 22 = 1 by kernel_rfl]
    obtain ⟨hlt, he⟩ := List.getElem?_eq_some_iff.1 hc
    rw [List.drop_eq_getElem_cons hlt, he]
    rfl
  rw [hd] at hx
  have hxl : i < xs.length := by rw [hls]; exact hi
  rw [List.getElem?_eq_getElem hxl] at hx
  rcases DataW.trod_slice Tryz.underlying22 hx with ⟨e, _⟩ | ⟨a, len, cap, elems, rest, m, _, e, hxe, _, _, _, hlen, _⟩
  · injection e with e
    injection e with _ e2 _
    omega
  · injection e with e
    injection e with _ e2 _
    have hw : (elems.length + rest.length) * Tryz.prog.bytesOf 5 ∈ (xs[i]).1.weights Tryz.prog 22 := by
      rw [hxe]
      simp [DataW.weights, Tryz.underlying22]
    have hm : (elems.length + rest.length) * Tryz.prog.bytesOf 5 ∈ (DataW.agg (xs.map (·.1))).weights Tryz.prog 24 := by
      simp only [DataW.weights, Tryz.underlying24]
      refine DataW.weights_mem_each (j := i) (t := 22) (d := (xs[i]).1) ?_ (by rw [List.getElem?_map, List.getElem?_eq_getElem hxl]; rfl) _ hw
      obtain rfl | rfl | rfl | rfl | rfl | rfl | rfl : i = 0 ∨ i = 1 ∨ i = 2 ∨ i = 3 ∨ i = 4 ∨ i = 5 ∨ i = 6 := by omega
      all_goals rfl
    have := hz _ hm
    rw [bytes5] at this
    unfold reachBytes at this
    omega
set_option maxRecDepth 100000 in
theorem lifted (os : Os) (started : os.Started) (H : Type) (enc : TypeId × Value → H) :
    ReturnsInHanded {} Tryz.checked os 3 .any (fun w args => (Rows.dataMakesSpec.pre enc Tryz.prog Tryz.f3 Rows.dataMakesRow.domain false w args ∧ laidMetH Tryz.prog Rows.dataMakesRow.laid w) ∧ sizedMet enc Tryz.prog Tryz.f3 (OpenSpec.ofChange Rows.dataMakesSpec) false w args)
      (Rows.dataMakesSpec.post enc Tryz.prog Tryz.f3 false true false false) := by
  refine handed_and_shaped (C := Tryz.checked) (X := fun w _ => laidMetH Tryz.prog Rows.dataMakesRow.laid w) (fun _ _ _ hh h => h.of_heap hh) own started (by kernel_rfl) Tryz.func3
    (ChangeSpec.witness_shaped (enc := enc) (C := Tryz.checked) (os := os) (X := fun w _ => laidMetH Tryz.prog Rows.dataMakesRow.laid w) false (World.laidAll Tryz.prog os Rows.dataMakesRow.laid) #[.agg #[.slice none 0 0, .slice none 0 0, .slice none 0 0, .slice none 0 0, .slice none 0 0, .slice none 0 0, .slice none 0 0], .int .i64 0, .int .i64 0] 8 (World.laidAll_os _ _ _)
      (World.shaped_of_ZipB (by kernel_rfl) (by kernel_rfl)) (by kernel_rfl) (by kernel_rfl) (by kernel_rfl)
      (by rw [MakeChecks.laidMetH_plain _ _ _ (by kernel_rfl)]; exact laidMet_laidAll _ (by kernel_rfl) (by kernel_rfl))) ?_
  intro W base args ds gs before hval0 hW hcnd hsz0 hS hL _
  have hval : ∀ (j : Nat) t v, Tryz.f3.params[j]? = some t → args[j]? = some v → Value.okWide Tryz.prog W .any base t v := hval0
  have hW' := hW
  obtain ⟨p, q, hA0, hV, rfl, hfz, hnd⟩ := hW
  have hA : DataW.TrodAll enc Tryz.prog W 0 (fun _ => true) true Tryz.f3.params.toList args.toList ds p := hA0
  rw [Tryz.params3] at hA hval hsz0
  obtain ⟨v0, vs0, d0, ds0, p0, q0, hargs, rfl, rfl, h0, r0⟩ := trodAll_cons hA
  obtain ⟨v1, vs1, d1, ds1, p1, q1, rfl, rfl, rfl, h1, r1⟩ := trodAll_cons r0
  obtain ⟨v2, vs2, d2, ds2, p2, q2, rfl, rfl, rfl, h2, r2⟩ := trodAll_cons r1
  obtain ⟨rfl, rfl, rfl⟩ := trodAll_nil r2
  obtain rfl : args = #[v0, v1, v2] := by cases args; simp_all
  obtain ⟨rfl, rfl⟩ := trodVars_none hV
  have lt0 : ∀ x ∈ p0, x.block < W.heap.size := fun x hx => by simpa using hW'.lt x (by simp [hx])
  have k0 := h0
  have lt1 : ∀ x ∈ p1, x.block < W.heap.size := fun x hx => by simpa using hW'.lt x (by simp [hx])
  have k1 := h1
  have lt2 : ∀ x ∈ p2, x.block < W.heap.size := fun x hx => by simpa using hW'.lt x (by simp [hx])
  have k2 := h2
  obtain ⟨cs0, e0, -⟩ := okWide_struct Tryz.underlying24 (hval 0 24 v0 rfl rfl)
  obtain ⟨fuel, hx⟩ := h0
  have hz0 : ∀ n ∈ d0.weights Tryz.prog 24, n ≤ reachBytes := fun n hn => by
    have := List.all_eq_true.1 hsz0 n (DataW.weights_mem_each (j := 0) (t := 24) (d := d0) rfl rfl n hn)
    simpa using this
  have bl := fun i hi A n c hc => bun_len hx hz0 i hi (A := A) (n := n) (c := c) hc
  obtain ⟨⟨l0, l1, l2, l3, l4, l5, l6⟩, hK, hq⟩ := opnBun fuel _ _ hx
  obtain ⟨_, _, hcs, ⟨A0, c0, rfl, _, C0⟩, _, _, rfl, ⟨A1, c1, rfl, _, C1⟩, _, _, rfl, ⟨A2, c2, rfl, _, C2⟩, _, _, rfl, ⟨A3, c3, rfl, _, C3⟩, _, _, rfl, ⟨A4, c4, rfl, _, C4⟩, _, _, rfl, ⟨A5, c5, rfl, _, C5⟩, ⟨A6, c6, rfl, _, C6⟩⟩ := hK
  obtain ⟨⟨m0, w0⟩, ⟨m1, w1⟩, ⟨m2, w2⟩, ⟨m3, w3⟩, ⟨m4, w4⟩, ⟨m5, w5⟩, ⟨m6, w6⟩⟩ := hq
  dsimp only at hcs C0 C1 C2 C3 C4 C5 C6 w0 w1 w2 w3 w4 w5 w6
  rw [hcs] at bl
  have b0 := bl 0 (by decide) _ _ _ rfl
  have b1 := bl 1 (by decide) _ _ _ rfl
  have b2 := bl 2 (by decide) _ _ _ rfl
  have b3 := bl 3 (by decide) _ _ _ rfl
  have b4 := bl 4 (by decide) _ _ _ rfl
  have b5 := bl 5 (by decide) _ _ _ rfl
  have b6 := bl 6 (by decide) _ _ _ rfl
  obtain ⟨f0, rfl⟩ := octets w0
  obtain ⟨f1, rfl⟩ := octets w1
  obtain ⟨f2, rfl⟩ := octets w2
  obtain ⟨f3, rfl⟩ := octets w3
  obtain ⟨f4, rfl⟩ := octets w4
  obtain ⟨f5, rfl⟩ := octets w5
  obtain ⟨f6, rfl⟩ := octets w6
  have en : ∀ f : List UInt8, (numB f).length = f.length := fun f => by unfold numB; simp
  rw [en] at C0 C1 C2 C3 C4 C5 C6 b0 b1 b2 b3 b4 b5 b6
  obtain rfl : v0 = .agg #[.slice A0 f0.length c0, .slice A1 f1.length c1, .slice A2 f2.length c2, .slice A3 f3.length c3, .slice A4 f4.length c4, .slice A5 f5.length c5, .slice A6 f6.length c6] := by
    rw [e0] at hcs ⊢
    congr 1
    apply Array.toList_inj.1
    simp only [en] at hcs
    exact hcs
  obtain ⟨a1, rfl, rfl, rfl, x1⟩ := open_int Tryz.underlying3 (hval 1 3 v1 rfl rfl) h1
  obtain ⟨a2, rfl, rfl, rfl, x2⟩ := open_int Tryz.underlying3 (hval 2 3 v2 rfl rfl) h2
  refine (datamakes_calls A0 c0 A1 c1 A2 c2 A3 c3 A4 c4 A5 c5 A6 c6 ⟨f0, f1, f2, f3, f4, f5, f6⟩ a1 a2 W C0 C1 C2 C3 C4 C5 C6 ⟨b0, b1, b2, b3, b4, b5, b6⟩ x1 x2 (tabs_of hL hS)).mono fun e W' ⟨he, bel⟩ => ?_
  subst he
  exact ⟨_, rfl, _, _, _, [], _, [], hW', trodAll_mk1 (shut_bool Tryz.underlying4 _), (trodAll_cons_mk (Below.trod lay0 (by kernel_rfl) (of_decide_eq_true (by kernel_rfl)) k0 bel lt0) (trodAll_cons_mk (Below.trod lay0 (by kernel_rfl) (of_decide_eq_true (by kernel_rfl)) k1 bel lt1) (trodAll_cons_mk (Below.trod lay0 (by kernel_rfl) (of_decide_eq_true (by kernel_rfl)) k2 bel lt2) trodAll_mk0))), rfl, bel.frame _, fun h => by cases h⟩
theorem over : Rows.DataMakesSaid :=
  OpenClaim.holds_of_wide 3 Tryz.f3 rfl rfl rfl rfl rfl rfl rfl ⟨rfl, rfl, rfl, rfl, rfl⟩ rfl rfl rfl rfl rfl (by kernel_rfl) Tryz.func3 (by kernel_rfl)
    (of_decide_eq_true (by kernel_rfl)) (by unfold Func.isWrapper; first | (rw [if_pos (by decide +kernel)]; kernel_rfl) | (rw [if_neg (by decide +kernel)]; exact ⟨rfl, rfl⟩))
    (fun os started H enc _ => lifted os started H enc)
theorem card : Rows.DataMakesCardSaid :=
  Claim7.holds_tied_plain_at .later [] [.data, .data, .data, .data, .sentinel, .sentinel, .data, .pinned, .pinned] true (true, "e2b141f45662e39795085e5f097c79376fda24cae6bd0ba29013ea4ceb5e5026") true
    over (fun _ h => by cases h) (by kernel_rfl) (fun _ h => by cases h) dataMakes_row_tie rfl ⟨rfl, rfl⟩ (by kernel_rfl) rfl
    (fun f fn hf hfn => by
      obtain rfl : f = 3 := Option.some.inj ((show Tryz.prog.funcNamed "paronym/paronymlaw07.DataMakes" = some 3 by kernel_rfl).symm.trans hf) |>.symm
      obtain rfl : fn = Tryz.f3 := (Option.some.inj (Tryz.func3.symm.trans hfn)).symm
      exact ⟨by kernel_rfl, fun j t ht => by
        rw [Tryz.params3] at ht
        have hm : t ∈ [24, 3, 3] := by simpa using Array.mem_of_getElem? ht
        have hall : ([24, 3, 3].all fun u => !Tryz.prog.wantsStandIn u) = true := by kernel_rfl
        exact (show Tryz.prog.wantsStandIn t = false by simpa using List.all_eq_true.1 hall t hm)⟩)
    (by kernel_rfl)
#print axioms card
end Go.Proofs.YtebgebgkieglhaaGreatDoor.dataMakes
namespace Go.Proofs.YtebgebgkieglhaaGreatDoor
/-- The card, under a short name, for the claim. -/
theorem dataMakes_holds : Rows.DataMakesCardSaid := dataMakes.card
end Go.Proofs.YtebgebgkieglhaaGreatDoor
