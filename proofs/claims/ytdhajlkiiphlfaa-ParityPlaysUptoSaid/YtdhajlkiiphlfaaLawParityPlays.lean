/- Every Make and Restore, in any order, each more than once: for every input of the bulk said, the law ParityPlays is true. No conditions. -/
import Derived.Test.YtdhajlkiiphlfaaRows
import Derived.Test.YtdhajlkiiphlfaaYf
import Derived.WalkKit
import Derived.ProofKit
import Derived.OpenShut
import Derived.ShutString
import Derived.ChangeOld
import Derived.JoinedCond
import Derived.Below
import Derived.SizedLaws
import Derived.Deep.Strs
import Derived.Deep.Fields
namespace Go.Proofs.Ytdhajlkiiphlfaa.parityPlays
open Go.ChangeShapes Go.WideShapes Go.ChangeAt Go.RowKit
open Go.ChangeMaps (open_string shut_string)
open Go.Proofs.YtdhajlkiiphlfaaW.PrintWords
open Go.Proofs.Ytdhajlkiiphlfaa.Par (OpD)
theorem own : ownKnob Try.prog.godebug = none := by kernel_rfl
theorem laidOut : laidOutB Try.prog = true := by kernel_rfl
theorem bulk_one {H : Type} : ∀ d : DataW H, 1 ≤ Rows.uptoBulk d
 | .lit l => by cases l <;> simp [Rows.uptoBulk]
 | .nil => by simp [Rows.uptoBulk]
 | .ptr d => by simp [Rows.uptoBulk]
 | .slice a b => by simp [Rows.uptoBulk]
 | .agg a => by simp [Rows.uptoBulk]
 | .iface t d => by simp [Rows.uptoBulk]
 | .map es => by simp [Rows.uptoBulk]
 | .held h => by simp [Rows.uptoBulk]
theorem bulk_len {H : Type} : ∀ l : List (DataW H), l.length ≤ Rows.uptoBulkAll l
 | [] => by simp [Rows.uptoBulkAll]
 | d :: r => by
  have h1 := bulk_one d
  have h2 := bulk_len r
  simp only [Rows.uptoBulkAll, List.length_cons]; omega
theorem bulk_mem {H : Type} {d : DataW H} : ∀ {l : List (DataW H)}, d ∈ l → Rows.uptoBulk d ≤ Rows.uptoBulkAll l
 | x :: r, h => by
  simp only [Rows.uptoBulkAll]
  rcases List.mem_cons.1 h with e | e
  · rw [e]; omega
  · have := bulk_mem e; omega
section
variable {H : Type} {enc : TypeId × Value → H} {W : World} {base : Nat} {held : Bool} {n : Nat} {v : Value} {y : DataW H × List MemPlace}
theorem strs_of (h : DataW.trod enc Try.prog W base (fun _ => true) held n 29 [v] = some y) (hb : Rows.uptoBulk y.1 ≤ 1048576) :
    ∃ (A : Option Addr) (c : Nat) (l : List ByteArray), v = .slice A l.length c ∧ Kd.C Kd.string W A l.length l ∧ l.length ≤ c ∧ l.length ≤ 1048576 ∧ ∀ s ∈ l, s.size ≤ 1048576 := by
 rcases Go.Deep.open_strs Try.underlying29 Try.underlying9 (by kernel_rfl) h with ⟨hcs, _⟩ | ⟨x, len, c, m, Sx, hcs, _, hl, hm, hmm, hx, hcell⟩
 · injection hcs with hcs
   subst hcs
   exact ⟨none, 0, [], rfl, Kd.C_of_reads (enc := Value.string) (d := ByteArray.empty) (h1 := fun _ => rfl) ⟨rfl, by simp, fun hp => absurd hp (by simp)⟩, Nat.le_refl _, Nat.zero_le _, fun s hs => absurd hs List.not_mem_nil⟩
 ·
  injection hcs with hcs
  subst hcs
  have hlm : len ≤ m := by rw [hmm]; split <;> omega
  have hll : ((List.range len).map Sx).length = len := by simp
  have hy : y.1 = .slice ((List.range len).map fun i => .lit (.string (Sx i).data.toList)) ((List.range (m - len)).map fun j => .lit (.string (Sx (len + j)).data.toList)) := by rw [hx]
  rw [hy] at hb
  simp only [Rows.uptoBulk] at hb
  refine ⟨some x, c, (List.range len).map Sx, by rw [hll], Kd.C_of_reads (enc := Value.string) (d := ByteArray.empty) (h1 := fun _ => rfl) ⟨rfl, by rw [hll]; unfold maxLen at hm; omega, fun hp => ⟨x, rfl, fun j hj => ?_⟩⟩, by rw [hll]; exact hl, ?_, fun s hs => ?_⟩
  · rw [hll] at hj
    rw [(hcell j (by omega)).1, List.getD_eq_getElem?_getD, List.getElem?_map, List.getElem?_range hj]; rfl
  · have := bulk_len ((List.range len).map fun i => (DataW.lit (H := H) (.string (Sx i).data.toList)))
    rw [List.length_map, List.length_range] at this
    rw [hll]
    omega
  · obtain ⟨i, hi, rfl⟩ := List.mem_map.1 hs
    have := bulk_mem (l := (List.range len).map fun i => (DataW.lit (H := H) (.string (Sx i).data.toList))) (List.mem_map.2 ⟨i, hi, rfl⟩)
    simp only [Rows.uptoBulk] at this
    have e : (Sx i).data.toList.length = (Sx i).size := by rw [Array.length_toList]; rfl
    omega
theorem ints_of (h : DataW.trod enc Try.prog W base (fun _ => true) held n 30 [v] = some y) (hb : Rows.uptoBulk y.1 ≤ 1048576) :
    ∃ (A : Option Addr) (c : Nat) (l : List Int), v = .slice A l.length c ∧ Kd.C (Kd.int .i64) W A l.length l ∧ l.length ≤ c ∧ l.length ≤ 1048576 ∧ ∀ y ∈ l, -9223372036854775808 ≤ y ∧ y ≤ 9223372036854775807 := by
 rcases open_ints Try.underlying30 Try.underlying3 (by kernel_rfl) h with ⟨hcs, _⟩ | ⟨x, len, c, zs, hcs, _, hl, hm, hz, hx, hcell, hwz⟩
 · injection hcs with hcs
   subst hcs
   exact ⟨none, 0, [], rfl, Kd.C_of_reads (enc := Value.int .i64) (d := (0 : Int)) (h1 := fun _ => rfl) ⟨rfl, by simp, fun hp => absurd hp (by simp)⟩, Nat.le_refl _, Nat.zero_le _, fun s hs => absurd hs List.not_mem_nil⟩
 ·
  injection hcs with hcs
  subst hcs
  have hz' : zs.length = c := by simpa using hz
  obtain ⟨l, e, hr, hm', hw, hlc⟩ := ReadsInt.ofRowC (w := W) (k := .i64) (a := some x) (len := len) (cap := c) (zs := zs) (.inr ⟨x, rfl, hl, hm, hz', hcell, hwz⟩)
  subst e
  have hy : y.1 = .slice (lits .i64 (zs.take l.length)) (lits .i64 (zs.drop l.length)) := by rw [hx]
  rw [hy] at hb
  simp only [Rows.uptoBulk] at hb
  have := bulk_len (lits (H := H) .i64 (zs.take l.length))
  have h3 : (lits (H := H) .i64 (zs.take l.length)).length = l.length := by simp [lits]; omega
  exact ⟨some x, c, l, rfl, Kd.C_of_reads (d := (0 : Int)) (h1 := fun _ => rfl) hr, hlc, by omega, fun y hy => by simpa [Lit.wf, IntKind.min, IntKind.max, IntKind.signed, IntKind.bits] using hw y hy⟩
theorem int_of (h : DataW.trod enc Try.prog W base (fun _ => true) held n 3 [v] = some y) : ∃ x : Int, v = .int .i64 x ∧ -9223372036854775808 ≤ x ∧ x ≤ 9223372036854775807 := by
 obtain ⟨x, e, _, hw⟩ := DataW.trod_int Try.underlying3 h
 injection e with e
 have : -9223372036854775808 ≤ x ∧ x ≤ 9223372036854775807 := by simpa [Lit.wf, IntKind.min, IntKind.max, IntKind.signed, IntKind.bits] using hw
 exact ⟨x, e, this⟩
theorem six {α : Type} {l : List α} (h : l.length = 6) : ∃ a b c d e f, l = [a, b, c, d, e, f] := by
 match l, h with
 | [a, b, c, d, e, f], _ => exact ⟨a, b, c, d, e, f, rfl⟩
theorem op_of {cs : List Value} (h : DataW.trod enc Try.prog W base (fun _ => true) held n 32 cs = some y) (hb : Rows.uptoBulk y.1 ≤ 1048576) :
    ∃ o : OpD, o.Ok W ∧ cs = [.int .i64 o.kd, .int .i64 o.p, .slice o.A2 o.rows.length o.c2, .slice o.A3 o.more.length o.c3, .slice o.A4 o.sizes.length o.c4, .slice o.A5 o.lost.length o.c5] := by
 obtain ⟨xs, m, _, hy, hlen, hxl, hg⟩ := DataW.trod_struct Try.underlying32 h
 have hC : Try.prog.cellsOf 32 = 6 := by kernel_rfl
 rw [hC] at hlen
 have hy1 : y.1 = .agg (xs.map (·.1)) := by rw [hy]
 rw [hy1] at hb
 simp only [Rows.uptoBulk] at hb
 clear hy hy1 h
 have hxl' : xs.length = 6 := hxl
 obtain ⟨e0, e1, e2, e3, e4, e5, rfl⟩ := six hlen
 obtain ⟨y0, y1, y2, y3, y4, y5, rfl⟩ := six hxl'
 clear hlen hxl hxl' hC
 ·
  simp only [List.map_cons, List.map_nil, Rows.uptoBulkAll] at hb
  have k3 : Try.prog.cellsOf 3 = 1 := by kernel_rfl
  have k29 : Try.prog.cellsOf 29 = 1 := by kernel_rfl
  have k30 : Try.prog.cellsOf 30 = 1 := by kernel_rfl
  have g0 : DataW.trod enc Try.prog W base (fun _ => true) held m 3 [e0] = some y0 := by
   have g : DataW.trod enc Try.prog W base (fun _ => true) held m 3 ((List.drop 0 [e0, e1, e2, e3, e4, e5]).take (Try.prog.cellsOf 3)) = [y0, y1, y2, y3, y4, y5][0]? := hg 0 { name := "Kind", type := 3, offset := 0, embedded := false, tag := "", pkgPath := "", byteOffset := 0 } rfl
   rw [k3] at g
   exact g
  have g1 : DataW.trod enc Try.prog W base (fun _ => true) held m 3 [e1] = some y1 := by
   have g : DataW.trod enc Try.prog W base (fun _ => true) held m 3 ((List.drop 1 [e0, e1, e2, e3, e4, e5]).take (Try.prog.cellsOf 3)) = [y0, y1, y2, y3, y4, y5][1]? := hg 1 { name := "P", type := 3, offset := 1, embedded := false, tag := "", pkgPath := "", byteOffset := 8 } rfl
   rw [k3] at g
   exact g
  have g2 : DataW.trod enc Try.prog W base (fun _ => true) held m 29 [e2] = some y2 := by
   have g : DataW.trod enc Try.prog W base (fun _ => true) held m 29 ((List.drop 2 [e0, e1, e2, e3, e4, e5]).take (Try.prog.cellsOf 29)) = [y0, y1, y2, y3, y4, y5][2]? := hg 2 { name := "Rows", type := 29, offset := 2, embedded := false, tag := "", pkgPath := "", byteOffset := 16 } rfl
   rw [k29] at g
   exact g
  have g3 : DataW.trod enc Try.prog W base (fun _ => true) held m 29 [e3] = some y3 := by
   have g : DataW.trod enc Try.prog W base (fun _ => true) held m 29 ((List.drop 3 [e0, e1, e2, e3, e4, e5]).take (Try.prog.cellsOf 29)) = [y0, y1, y2, y3, y4, y5][3]? := hg 3 { name := "More", type := 29, offset := 3, embedded := false, tag := "", pkgPath := "", byteOffset := 40 } rfl
   rw [k29] at g
   exact g
  have g4 : DataW.trod enc Try.prog W base (fun _ => true) held m 30 [e4] = some y4 := by
   have g : DataW.trod enc Try.prog W base (fun _ => true) held m 30 ((List.drop 4 [e0, e1, e2, e3, e4, e5]).take (Try.prog.cellsOf 30)) = [y0, y1, y2, y3, y4, y5][4]? := hg 4 { name := "Sizes", type := 30, offset := 4, embedded := false, tag := "", pkgPath := "", byteOffset := 64 } rfl
   rw [k30] at g
   exact g
  have g5 : DataW.trod enc Try.prog W base (fun _ => true) held m 30 [e5] = some y5 := by
   have g : DataW.trod enc Try.prog W base (fun _ => true) held m 30 ((List.drop 5 [e0, e1, e2, e3, e4, e5]).take (Try.prog.cellsOf 30)) = [y0, y1, y2, y3, y4, y5][5]? := hg 5 { name := "Lost", type := 30, offset := 5, embedded := false, tag := "", pkgPath := "", byteOffset := 88 } rfl
   rw [k30] at g
   exact g
  obtain ⟨kd, rfl, _⟩ := int_of (y := y0) g0
  obtain ⟨p, rfl, hp⟩ := int_of (y := y1) g1
  obtain ⟨A2, c2, rows, rfl, a1, a2, a3, a4⟩ := strs_of (y := y2) g2 (by omega)
  obtain ⟨A3, c3, more, rfl, b1, b2, b3, b4⟩ := strs_of (y := y3) g3 (by omega)
  obtain ⟨A4, c4, sizes, rfl, d1, d2, d3, d4⟩ := ints_of (y := y4) g4 (by omega)
  obtain ⟨A5, c5, lost, rfl, f1, f2, f3, f4⟩ := ints_of (y := y5) g5 (by omega)
  exact ⟨⟨kd, p, A2, A3, A4, A5, c2, c3, c4, c5, rows, more, sizes, lost⟩, ⟨hp, a1, a2, a3, a4, b1, b2, b3, b4, d1, d2, d3, d4, f1, f2, f3, f4⟩, rfl⟩
end
theorem add_at {ad : Addr} {k j : Nat} : (ad.add k).add (j + 1) = ⟨ad.block, ad.off + k + (j + 1), none⟩ := by
 unfold Addr.add
 by_cases hk : k = 0
 · subst hk; simp
 · simp [hk]
theorem ops_of {H : Type} {enc : TypeId × Value → H} {W : World} {base : Nat} {held : Bool} {a : Option Addr} {len cap : Nat} {d : DataW H} {ps : List MemPlace}
    (h : DataW.Trod enc Try.prog W base (fun _ => true) held 23 (.slice a len cap) d ps) (hb : Rows.uptoBulk d ≤ 1048576) :
    ∃ ops : List OpD, ops.length = len ∧ ops.length ≤ 1048576 ∧ (∀ o ∈ ops, o.Ok W) ∧ (0 < ops.length → ∃ ad, a = some ad ∧ ∀ (i : Nat) o, ops[i]? = some o → W.cell? (ad.add (i * 6)) = some (.int .i64 o.kd) ∧ W.cell? ⟨ad.block, ad.off + i * 6 + 1, none⟩ = some (.int .i64 o.p) ∧ W.cell? ⟨ad.block, ad.off + i * 6 + 2, none⟩ = some (.slice o.A2 o.rows.length o.c2) ∧ W.cell? ⟨ad.block, ad.off + i * 6 + 3, none⟩ = some (.slice o.A3 o.more.length o.c3) ∧ W.cell? ⟨ad.block, ad.off + i * 6 + 4, none⟩ = some (.slice o.A4 o.sizes.length o.c4) ∧ W.cell? ⟨ad.block, ad.off + i * 6 + 5, none⟩ = some (.slice o.A5 o.lost.length o.c5)) := by
 obtain ⟨fuel, hf⟩ := h
 have hC : Try.prog.cellsOf 32 = 6 := by kernel_rfl
 rcases Go.Deep.open_slice Try.underlying23 hf with ⟨hcs, _⟩ | ⟨x, l, c, m, n, D, Pl, hcs, _, hl, hm, hmm, hx, hi⟩
 · simp [Value.cells] at hcs
   obtain ⟨rfl, rfl, rfl⟩ := hcs
   exact ⟨[], rfl, Nat.zero_le _, fun o ho => absurd ho List.not_mem_nil, fun hp => absurd hp (by simp)⟩
 ·
  simp [Value.cells] at hcs
  obtain ⟨rfl, rfl, rfl⟩ := hcs
  have hlm : len ≤ m := by rw [hmm]; split <;> omega
  obtain ⟨hd, _⟩ := Prod.mk.inj hx
  rw [hd] at hb
  simp only [Rows.uptoBulk] at hb
  have ex : ∀ i : Nat, ∃ o : OpD, i < len → o.Ok W ∧ W.cells? base (x.add (i * 6)) 6 = some [.int .i64 o.kd, .int .i64 o.p, .slice o.A2 o.rows.length o.c2, .slice o.A3 o.more.length o.c3, .slice o.A4 o.sizes.length o.c4, .slice o.A5 o.lost.length o.c5] := fun i => by
   by_cases hil : i < len
   · obtain ⟨cs', h1, h2⟩ := hi i (by omega)
     rw [hC] at h1
     have hbi := bulk_mem (l := (List.range len).map D) (List.mem_map.2 ⟨i, List.mem_range.2 hil, rfl⟩)
     obtain ⟨o, ho, rfl⟩ := op_of h2 (show Rows.uptoBulk (D i) ≤ 1048576 by omega)
     exact ⟨o, fun _ => ⟨ho, h1⟩⟩
   · exact ⟨⟨0, 0, none, none, none, none, 0, 0, 0, 0, [], [], [], []⟩, fun h => absurd h hil⟩
  obtain ⟨f, hf'⟩ := Classical.skolem.1 ex
  have hll : ((List.range len).map f).length = len := by simp
  have hbl := bulk_len ((List.range len).map D)
  rw [List.length_map, List.length_range] at hbl
  refine ⟨(List.range len).map f, hll, by rw [hll]; omega, fun o ho => ?_, fun _ => ⟨x, rfl, fun i o ho => ?_⟩⟩
  · obtain ⟨i, hi', rfl⟩ := List.mem_map.1 ho
    exact (hf' i (List.mem_range.1 hi')).1
  ·
   have hil : i < len := by have := (List.getElem?_eq_some_iff.1 ho).1; omega
   rw [List.getElem?_map, List.getElem?_range hil] at ho
   obtain rfl := Option.some.inj ho
   obtain ⟨_, _, hat⟩ := World.cells?_some (hf' i hil).2
   refine ⟨?_, ?_, ?_, ?_, ?_, ?_⟩
   · have := hat 0 (by decide)
     rw [show (x.add (i * 6)).add 0 = x.add (i * 6) from rfl] at this
     exact this
   · have := hat 1 (by decide); rw [add_at] at this; exact this
   · have := hat 2 (by decide); rw [add_at] at this; exact this
   · have := hat 3 (by decide); rw [add_at] at this; exact this
   · have := hat 4 (by decide); rw [add_at] at this; exact this
   · have := hat 5 (by decide); rw [add_at] at this; exact this
set_option maxRecDepth 100000 in
theorem contract (H : Type) (enc : TypeId × Value → H) (W : World) (base : Nat) (args : Array Value) (ds gs : List (DataW H)) (before : List MemPlace)
    (hval0 : ∀ (j : Nat) t v, Try.f4.params[j]? = some t → args[j]? = some v → Value.okWide Try.prog W .any base t v)
    (hW : DataW.Whole enc Try.prog Try.f4.params.toList Rows.parityPlaysSpec.vars false W args.toList ds gs before) (hk : Rows.uptoSmall H (ds ++ gs) = true) :
    Calls Try.prog 4 args W fun e W' => ∃ v, e = .returned v ∧ Rows.parityPlaysSpec.post enc Try.prog Try.f4 false true false false W args v W' := by
 have hval : ∀ (j : Nat) t v, Try.f4.params[j]? = some t → args[j]? = some v → Value.okWide Try.prog W .any base t v := hval0
 have hW' := hW
 obtain ⟨p, q, hA0, hV, rfl, hfz, hnd⟩ := hW
 have hA : DataW.TrodAll enc Try.prog W 0 (fun _ => true) true Try.f4.params.toList args.toList ds p := hA0
 rw [Try.params4] at hA hval
 obtain ⟨v0, vs0, d0, ds0, p0, q0, hargs, rfl, rfl, h0, r0⟩ := trodAll_cons hA
 obtain ⟨rfl, rfl, rfl⟩ := trodAll_nil r0
 obtain rfl : args = #[v0] := by cases args; simp_all
 obtain ⟨rfl, rfl⟩ := trodVars_none hV
 have hb : Rows.uptoBulkAll ([d0] ++ ([] : List (DataW H))) ≤ 1048576 := of_decide_eq_true hk
 have hb0 := bulk_mem (l := [d0] ++ ([] : List (DataW H))) (d := d0) (by simp)
 obtain ⟨a0, len0, cap0, rfl⟩ := okWide_slice Try.underlying23 (hval 0 23 v0 rfl rfl)
 have k0 := h0
 have lt0 : ∀ x ∈ p0, x.block < W.heap.size := by obtain ⟨m, hm⟩ := k0; exact DataW.trod_lt m _ _ _ hm
 obtain ⟨ops, rfl, hl, hok, hcell⟩ := ops_of h0 (by omega)
 clear hA0 hval0
 refine (Par.plays_calls W a0 cap0 ops hl hok hcell).mono fun e W' ⟨he, bel⟩ => ?_
 subst he
 exact ⟨_, rfl, _, _, _, [], _, [], hW', trodAll_mk1 (shut_bool Try.underlying4 _), (trodAll_cons_mk (Below.trod laidOut (by kernel_rfl) (of_decide_eq_true (by kernel_rfl)) k0 bel lt0) trodAll_mk0), rfl, bel.frame _, fun h => by cases h⟩
set_option maxRecDepth 100000 in
theorem lifted (os : Os) (started : os.Started) (H : Type) (enc : TypeId × Value → H) (F : Stop.Interp) :
    ReturnsInHanded {} Try.checked os 4 .any ((Rows.OpenSpec.upto Rows.parityPlaysSpec).pre6 enc Try.prog Try.f4 Rows.parityPlaysUptoRow.domain false) (((Rows.OpenSpec.upto Rows.parityPlaysSpec).at F).post enc Try.prog Try.f4 false true false false) := by
 refine returnsInHanded_of_cond (C := Try.checked) (s := Rows.OpenSpec.upto Rows.parityPlaysSpec) (k := Rows.uptoSmall) rfl own started (by kernel_rfl) Try.func4
  (OpenSpec.witness (enc := enc) (C := Try.checked) (s := Rows.OpenSpec.upto Rows.parityPlaysSpec) (k := Rows.uptoSmall) rfl false ⟨#[], #[.slice none 0 0], []⟩ 8 (by kernel_rfl) (by kernel_rfl) (by kernel_rfl)
   (x := ([.nil], [], [])) (by kernel_rfl) rfl (by kernel_rfl)) ?_
 intro W base args ds gs before hval hW _ hk _
 exact contract H enc W base args ds gs before hval hW hk
theorem over : Rows.parityPlaysUptoRow.holds Try.pinned (Rows.OpenSpec.upto Rows.parityPlaysSpec) :=
 OpenClaim.holds_of_cond 4 Try.f4 rfl rfl rfl rfl rfl rfl rfl ⟨rfl, rfl, rfl, rfl, rfl⟩ rfl rfl rfl rfl rfl (by kernel_rfl) Try.func4 (by kernel_rfl)
  (of_decide_eq_true (by kernel_rfl)) (by unfold Func.isWrapper; ((rw [if_neg (by decide +kernel)]; exact ⟨rfl, rfl⟩)))
  (fun os started H enc _ F => lifted os started H enc F)
theorem proved : Rows.ParityPlaysUptoSaid := over
end Go.Proofs.Ytdhajlkiiphlfaa.parityPlays
namespace Go.Proofs.Ytdhajlkiiphlfaa
theorem parityPlays_holds : Rows.ParityPlaysUptoSaid := parityPlays.proved
#print axioms parityPlays_holds
end Go.Proofs.Ytdhajlkiiphlfaa
