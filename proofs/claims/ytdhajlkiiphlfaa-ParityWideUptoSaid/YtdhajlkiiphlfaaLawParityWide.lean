/- Long rows by a rule: rows more are sums of products, and all come back: for every input of the bulk said, the law ParityWide is true. No conditions. -/
import Derived.Test.YtdhajlkiiphlfaaRows
import Derived.Test.YtdhajlkiiphlfaaPi
import Derived.Test.YtdhajlkiiphlfaaWSized
import Derived.WalkKit
import Derived.ProofKit
import Derived.OpenShut
import Derived.ShutString
import Derived.ChangeOld
import Derived.JoinedCond
import Derived.Below
import Derived.SizedLaws
import Derived.Deep.SlicePairs
namespace Go.Proofs.Ytdhajlkiiphlfaa.parityWide
open Go.ChangeShapes Go.WideShapes Go.ChangeAt Go.RowKit
open Go.ChangeMaps (open_string shut_string)
open Go.Proofs.YtdhajlkiiphlfaaW.PrintWords
set_option linter.unusedVariables false
theorem own : ownKnob Try.prog.godebug = none := by kernel_rfl
theorem laidOut : laidOutB Try.prog = true := by kernel_rfl
/-- a value counts one at least -/
theorem bulk_one {H : Type} : ∀ d : DataW H, 1 ≤ Rows.uptoBulk d
  | .lit l => by cases l <;> simp [Rows.uptoBulk]
  | .nil => by simp [Rows.uptoBulk]
  | .ptr d => by simp [Rows.uptoBulk]
  | .slice a b => by simp [Rows.uptoBulk]
  | .agg a => by simp [Rows.uptoBulk]
  | .iface t d => by simp [Rows.uptoBulk]
  | .map es => by simp [Rows.uptoBulk]
  | .held h => by simp [Rows.uptoBulk]
theorem bulk_len {H : Type} : ∀ l : List (DataW H), l.length ≤ Rows.uptoBulkAll l
  | [] => by simp [Rows.uptoBulkAll]
  | d :: r => by
    have h1 := bulk_one d
    have h2 := bulk_len r
    simp only [Rows.uptoBulkAll, List.length_cons]; omega
theorem bulk_mem {H : Type} {d : DataW H} : ∀ {l : List (DataW H)}, d ∈ l → Rows.uptoBulk d ≤ Rows.uptoBulkAll l
  | x :: r, h => by
    simp only [Rows.uptoBulkAll]
    rcases List.mem_cons.1 h with e | e
    · rw [e]; omega
    · have := bulk_mem e; omega
theorem wides {H : Type} {enc : TypeId × Value → H} {W : World} {base : Nat} {held : Bool} {a : Option Addr} {len cap : Nat} {d : DataW H} {ps : List MemPlace}
    (h : DataW.Trod enc Try.prog W base (fun _ => true) held 45 (.slice a len cap) d ps) : ∃ ws : List (Int × Int), ws.length = len ∧ Par.WC W a ws ∧ (∀ x ∈ ws, Par.InI x.1) ∧ len ≤ Rows.uptoBulk d := by
  obtain ⟨fuel, hf⟩ := h
  rcases Go.Deep.open_slice_pairs Try.underlying45 Try.underlying47 (by kernel_rfl) rfl rfl (by kernel_rfl) (by kernel_rfl) hf with ⟨hcs, _⟩ | ⟨x, l, c, m, n, V0, V1, D0, D1, P0, P1, hcs, _, hl, hm, hmm, hx, hcell⟩
  · simp [Value.cells] at hcs
    obtain ⟨rfl, rfl, rfl⟩ := hcs
    exact ⟨[], rfl, fun i hi => by simp at hi, fun x hx => by simp at hx, Nat.zero_le _⟩
  · simp [Value.cells] at hcs
    obtain ⟨rfl, rfl, rfl⟩ := hcs
    have hlm : len ≤ m := by rw [hmm]; split <;> omega
    have each : ∀ i, ∃ p : Int × Int, i < m → V0 i = .int .i64 p.1 ∧ V1 i = .int .i64 p.2 ∧ Par.InI p.1 := fun i => by
      by_cases hi : i < m
      · obtain ⟨_, _, h0, h1⟩ := hcell i hi
        obtain ⟨n0, e0, _, w0⟩ := DataW.trod_int (t := 3) Try.underlying3 h0
        obtain ⟨n1, e1, _, w1⟩ := DataW.trod_int (t := 3) Try.underlying3 h1
        refine ⟨(n0, n1), fun _ => ⟨by simpa using e0, by simpa using e1, ?_⟩⟩
        have hw : -9223372036854775808 ≤ n0 ∧ n0 ≤ 9223372036854775807 := by simpa [Lit.wf, IntKind.min, IntKind.max, IntKind.signed, IntKind.bits] using w0
        exact hw
      · exact ⟨(0, 0), fun h => absurd h hi⟩
    have hq := fun i => Classical.choose_spec (each i)
    have hll : ((List.range len).map fun i => Classical.choose (each i)).length = len := by simp
    have hget : ∀ i, i < len → ((List.range len).map fun i => Classical.choose (each i)).getD i (0, 0) = Classical.choose (each i) := fun i hi => by
      rw [List.getD_eq_getElem?_getD, List.getElem?_map, List.getElem?_range hi]; rfl
    refine ⟨(List.range len).map fun i => Classical.choose (each i), hll, fun i hi => ?_, fun y hy => ?_, ?_⟩
    · rw [hll] at hi
      obtain ⟨g0, g1, _, _⟩ := hcell i (by omega)
      obtain ⟨e0, e1, _⟩ := hq i (by omega)
      refine ⟨x, rfl, ?_, ?_⟩
      · exact g0.trans (congrArg some (e0.trans (by rw [hget i hi])))
      · exact g1.trans (congrArg some (e1.trans (by rw [hget i hi])))
    · obtain ⟨i, hi, rfl⟩ := List.mem_map.1 hy
      exact (hq i (by have := List.mem_range.1 hi; omega)).2.2
    · obtain ⟨hx, _⟩ := Prod.mk.inj hx
      rw [hx]
      have := bulk_len ((List.range len).map fun i => (DataW.agg (H := H) [D0 i, D1 i]))
      simp only [Rows.uptoBulk]
      rw [List.length_map, List.length_range] at this
      omega
def IsRow (k : IntKind) (w : World) (a : Option Addr) (len cap : Nat) (zs : List Int) : Prop :=
  (a = none ∧ len = 0 ∧ cap = 0 ∧ zs = []) ∨
  ∃ x, a = some x ∧ len ≤ cap ∧ cap ≤ maxLen ∧ zs.length = cap ∧ (∀ i, i < zs.length → w.cell? (x.add i) = some (.int k (zs.getD i 0))) ∧ ∀ n ∈ zs, (Lit.int k n).wf = true
theorem ints {H : Type} {enc : TypeId × Value → H} {W : World} {base : Nat} {held : Bool} {a : Option Addr} {len cap : Nat} {d : DataW H} {ps : List MemPlace}
    (h : DataW.Trod enc Try.prog W base (fun _ => true) held 30 (.slice a len cap) d ps) : (∃ zs, IsRow .i64 W a len cap zs) ∧ len ≤ Rows.uptoBulk d := by
  obtain ⟨fuel, hf⟩ := h
  rcases open_ints Try.underlying30 Try.underlying3 (by kernel_rfl) hf with ⟨hcs, _⟩ | ⟨x, l, c, zs, hcs, _, hl, hm, hz, hx, hcell, hwz⟩
  · simp [Value.cells] at hcs
    obtain ⟨rfl, rfl, rfl⟩ := hcs
    exact ⟨⟨[], .inl ⟨rfl, rfl, rfl, rfl⟩⟩, Nat.zero_le _⟩
  · simp [Value.cells] at hcs
    obtain ⟨rfl, rfl, rfl⟩ := hcs
    refine ⟨⟨zs, .inr ⟨_, rfl, hl, hm, by simpa using hz, hcell, hwz⟩⟩, ?_⟩
    obtain ⟨hx, _⟩ := Prod.mk.inj hx
    rw [hx]
    have := bulk_len (lits (H := H) .i64 (zs.take len))
    have hl2 : len ≤ zs.length := by rw [hz]; split <;> omega
    simp only [Rows.uptoBulk]
    have h3 : (lits (H := H) .i64 (zs.take len)).length = len := by simp [lits]; omega
    omega
set_option maxRecDepth 100000 in
theorem contract (H : Type) (enc : TypeId × Value → H) (W : World) (base : Nat) (args : Array Value) (ds gs : List (DataW H)) (before : List MemPlace)
    (hval0 : ∀ (j : Nat) t v, Try.f7.params[j]? = some t → args[j]? = some v → Value.okWide Try.prog W .any base t v)
    (hW : DataW.Whole enc Try.prog Try.f7.params.toList Rows.parityWideSpec.vars false W args.toList ds gs before) (hk : Rows.uptoSmall H (ds ++ gs) = true) :
    Calls Try.prog 7 args W fun e W' => ∃ v, e = .returned v ∧ Rows.parityWideSpec.post enc Try.prog Try.f7 false true false false W args v W' := by
  have hval : ∀ (j : Nat) t v, Try.f7.params[j]? = some t → args[j]? = some v → Value.okWide Try.prog W .any base t v := hval0
  have hW' := hW
  obtain ⟨p, q, hA0, hV, rfl, hfz, hnd⟩ := hW
  have hA : DataW.TrodAll enc Try.prog W 0 (fun _ => true) true Try.f7.params.toList args.toList ds p := hA0
  rw [Try.params7] at hA hval
  obtain ⟨v0, vs0, d0, ds0, p0, q0, hargs, rfl, rfl, h0, r0⟩ := trodAll_cons hA
  obtain ⟨v1, vs1, d1, ds1, p1, q1, rfl, rfl, rfl, h1, r1⟩ := trodAll_cons r0
  obtain ⟨v2, vs2, d2, ds2, p2, q2, rfl, rfl, rfl, h2, r2⟩ := trodAll_cons r1
  obtain ⟨rfl, rfl, rfl⟩ := trodAll_nil r2
  obtain rfl : args = #[v0, v1, v2] := by cases args; simp_all
  obtain ⟨rfl, rfl⟩ := trodVars_none hV
  have hb : Rows.uptoBulkAll ([d0, d1, d2] ++ ([] : List (DataW H))) ≤ 1048576 := of_decide_eq_true hk
  have hb0 := bulk_mem (l := [d0, d1, d2] ++ ([] : List (DataW H))) (d := d0) (by simp)
  have hb2 := bulk_mem (l := [d0, d1, d2] ++ ([] : List (DataW H))) (d := d2) (by simp)
  obtain ⟨a0, len0, cap0, rfl⟩ := okWide_slice Try.underlying45 (hval 0 45 v0 rfl rfl)
  obtain ⟨a2, len2, cap2, rfl⟩ := okWide_slice Try.underlying30 (hval 2 30 v2 rfl rfl)
  have k0 := h0
  have k2 := h2
  have lt0 : ∀ x ∈ p0, x.block < W.heap.size := by obtain ⟨m, hm⟩ := k0; exact DataW.trod_lt m _ _ _ hm
  have lt2 : ∀ x ∈ p2, x.block < W.heap.size := by obtain ⟨m, hm⟩ := k2; exact DataW.trod_lt m _ _ _ hm
  obtain ⟨a1, rfl, rfl, rfl, w1⟩ := open_int Try.underlying3 (hval 1 3 v1 rfl rfl) h1
  obtain ⟨l0, rfl, hr0, hi0, hs0⟩ := wides h0
  obtain ⟨⟨z2, hz2⟩, hs2⟩ := ints h2
  obtain ⟨l2, rfl, hr2, hm2, hw2, hc2⟩ := ReadsInt.ofRowC hz2
  have hx1 : -9223372036854775808 ≤ a1 ∧ a1 ≤ 9223372036854775807 := by simpa [Lit.wf, IntKind.min, IntKind.max, IntKind.signed, IntKind.bits] using w1
  have hx2 : ∀ y ∈ l2, -9223372036854775808 ≤ y ∧ y ≤ 9223372036854775807 := fun y hy => by simpa [Lit.wf, IntKind.min, IntKind.max, IntKind.signed, IntKind.bits] using hw2 y hy
  clear hA0 hval0
  refine (Par.wide_calls a0 a2 cap0 cap2 l0 a1 l2 W hr0 hi0 (by omega) hx1 (Kd.C_of_reads (d := (0 : Int)) (h1 := fun _ => rfl) hr2) (by omega) hx2).mono fun e W' ⟨he, bel⟩ => ?_
  subst he
  exact ⟨_, rfl, _, _, _, [], _, [], hW', trodAll_mk1 (shut_bool Try.underlying4 _), (trodAll_cons_mk (Below.trod laidOut (by kernel_rfl) (of_decide_eq_true (by kernel_rfl)) k0 bel lt0) (trodAll_cons_mk (shut_int Try.underlying3 w1) (trodAll_cons_mk (Below.trod laidOut (by kernel_rfl) (of_decide_eq_true (by kernel_rfl)) k2 bel lt2) trodAll_mk0))), rfl, bel.frame _, fun h => by cases h⟩
set_option maxRecDepth 100000 in
theorem lifted (os : Os) (started : os.Started) (H : Type) (enc : TypeId × Value → H) (F : Stop.Interp) :
    ReturnsInHanded {} Try.checked os 7 .any ((Rows.OpenSpec.upto Rows.parityWideSpec).pre6 enc Try.prog Try.f7 Rows.parityWideUptoRow.domain false) (((Rows.OpenSpec.upto Rows.parityWideSpec).at F).post enc Try.prog Try.f7 false true false false) := by
  refine returnsInHanded_of_cond (C := Try.checked) (s := Rows.OpenSpec.upto Rows.parityWideSpec) (k := Rows.uptoSmall) rfl own started (by kernel_rfl) Try.func7
    (OpenSpec.witness (enc := enc) (C := Try.checked) (s := Rows.OpenSpec.upto Rows.parityWideSpec) (k := Rows.uptoSmall) rfl false ⟨#[], #[.slice none 0 0, .int .i64 0, .slice none 0 0], []⟩ 8 (by kernel_rfl) (by kernel_rfl) (by kernel_rfl)
      (x := ([.nil, .lit (.int .i64 0), .nil], [], [])) (by kernel_rfl) rfl (by kernel_rfl)) ?_
  intro W base args ds gs before hval hW _ hk _
  exact contract H enc W base args ds gs before hval hW hk
theorem over : Rows.parityWideUptoRow.holds Try.pinned (Rows.OpenSpec.upto Rows.parityWideSpec) :=
  OpenClaim.holds_of_cond 7 Try.f7 rfl rfl rfl rfl rfl rfl rfl ⟨rfl, rfl, rfl, rfl, rfl⟩ rfl rfl rfl rfl rfl (by kernel_rfl) Try.func7 (by kernel_rfl)
    (of_decide_eq_true (by kernel_rfl)) (by unfold Func.isWrapper; first | (rw [if_pos (by decide +kernel)]; kernel_rfl) | (rw [if_neg (by decide +kernel)]; exact ⟨rfl, rfl⟩))
    (fun os started H enc _ F => lifted os started H enc F)
theorem proved : Rows.ParityWideUptoSaid := over
end Go.Proofs.Ytdhajlkiiphlfaa.parityWide
namespace Go.Proofs.Ytdhajlkiiphlfaa
/-- The row, under a short name, for the claim. -/
theorem parityWide_holds : Rows.ParityWideUptoSaid := parityWide.proved
#print axioms parityWide_holds
end Go.Proofs.Ytdhajlkiiphlfaa
