/- A part of a proof: see the text's own remark. No conditions beyond its theorems' own. -/
import Derived.Test.YtdleoljbnjjdgaaWMore
import Derived.Laws.CopyOwn
import Derived.WalkKit
namespace Go.Proofs.Ytdleoljbnjjdgaa.CopyR
open Go.RowKit Go.Proofs.YtdleoljbnjjdgaaW.PrintWords
/-- the list behind a copy of a list of m numbers -/
def copied (xs ys : List Int) : List Int := ys.take xs.length ++ xs.drop (min ys.length xs.length)
theorem copied_length (xs ys : List Int) : (copied xs ys).length = xs.length := by
  unfold copied; rw [List.length_append, List.length_take, List.length_drop]; omega
theorem nums_of {k : IntKind} {w : World} {base : Nat} {ok : Nat → Prop} {xs : List Int} {inner : List Value} (h : Reps ((Kd.int k).M w base ok) 1 xs inner) : inner = xs.map (Value.int k) := by
  apply List.ext_getElem?
  intro i
  rw [List.getElem?_map]
  by_cases hi : i < xs.length
  · have h2 : ((inner.drop (i * 1)).take 1) = [Value.int k xs[i]] := h.2 i _ (List.getElem?_eq_getElem hi)
    rw [Nat.mul_one] at h2
    have h3 := congrArg (fun l : List Value => l[0]?) h2
    simp only [List.getElem?_take, List.getElem?_drop] at h3
    simpa [List.getElem?_eq_getElem hi] using h3
  · have hl : inner.length = xs.length := by simpa using h.1
    rw [List.getElem?_eq_none (by omega), List.getElem?_eq_none (by omega)]; rfl
theorem reps_nums {k : IntKind} {w : World} {base : Nat} {ok : Nat → Prop} (xs : List Int) : Reps ((Kd.int k).M w base ok) 1 xs (xs.map (Value.int k)) := by
  refine ⟨by simp, fun j p hj => ?_⟩
  show ((xs.map (Value.int k)).drop (j * 1)).take 1 = [.int k p]
  have hlt := (List.getElem?_eq_some_iff.1 hj).1
  rw [Nat.mul_one, List.drop_eq_getElem_cons (by simpa using hlt)]
  have hp := (List.getElem?_eq_some_iff.1 hj).2
  simp [hp]
/-- copy into a row of the call's own, from a row that is read -/
theorem wpList_copy_R {P : Program} {w : World} {ops : Array Oper} {rest : List Oper} {o : Oper} {a : Act} {Q : Exit → Act → World → Prop} (hgd : o.guard = none) (d s : Operand) (dT sT : TypeId)
    (ho : o.op = .call { callee := .builtin .copy, args := #[d, s], argTypes := #[dT, sT] }) {elem : TypeId} (hu : P.underlying dT = some (.slice elem)) (hsz : (P.info? elem).map (·.size) = some 1)
    {k : IntKind} {base : Nat} {ok : Nat → Prop} {v : Value} {xs ys : List Int} {A : Option Addr} {c : Nat} (hd : a.eval d = v) (hR : Kd.R (Kd.int k) elem w base ok v xs) (hs : a.eval s = .slice A ys.length c) (hC : Kd.C (Kd.int k) w A ys.length ys)
    {B : Nat} {w0 : World} (hb : Below B w0 w) (hB : B ≤ base)
    (h : ∀ w', Aside0 (Kd.R (Kd.int k) elem w' base ok v (copied xs ys)) → Below B w0 w' → wpList P ops Q rest (a.put o.dst (goInt ((min ys.length xs.length : Nat) : Int))) w') : wpList P ops Q (o :: rest) a w := by
  obtain ⟨h0, inner, ⟨hlen, hcase⟩, hreps⟩ := hR
  have hin := nums_of (ok := fun k => ok k ∧ some k ≠ v.ownBlock) hreps
  rcases hcase with ⟨rfl, hx0⟩ | ⟨g, cap, cur, rfl, hg, hh, hnc, hcm, hcs, htake⟩
  · obtain rfl : xs = [] := List.eq_nil_of_length_eq_zero hx0
    refine wpList_copy_nothing hgd d s dT sT ho elem hu hsz none A 0 0 ys.length c hd hs (by simp) ?_
    have e0 : copied [] ys = [] := by simp [copied]
    have := h w ⟨by rw [e0]; exact ⟨h0, inner, ⟨hlen, .inl ⟨rfl, hx0⟩⟩, hreps⟩⟩ hb
    rw [show min ys.length ([] : List Int).length = 0 from by simp] at this
    exact this
  · have hsz1 : (Kd.int k).sz = 1 := rfl
    rw [hsz1] at hcs htake hlen
    simp only [Nat.mul_one] at hcs htake hlen
    have hxl : inner.length = xs.length := hlen
    have hml : ((ys.take xs.length).map (Value.int k)).length = min ys.length xs.length := by simp [Nat.min_comm]
    have hcl : cur.toList.length = cur.size := Array.length_toList
    refine wpList_copy_splice hgd d s dT sT ho elem hu hsz _ A xs.length cap ys.length c hd hs g 0 cur.toList elem (by simpa using hh) ((ys.take xs.length).map (Value.int k)) (by rw [hml]) (fun hpos => ⟨rfl, ?_⟩) (by rw [hml]; omega) (by
      intro u hu2
      obtain ⟨z, _, rfl⟩ := List.mem_map.1 hu2
      rfl) B w0 hb (by omega) ?_
    · have hy0 : 0 < ys.length := by rw [hml] at hpos; omega
      obtain ⟨ad, rfl, hcell⟩ := hC.2.2 hy0
      refine ⟨ad, rfl, fun j u hj => ?_⟩
      rw [List.getElem?_map] at hj
      obtain ⟨z, hz, rfl⟩ := Option.map_eq_some_iff.1 hj
      have hz2 : ys[j]? = some z := by
        rw [List.getElem?_take] at hz
        split at hz
        · exact hz
        · cases hz
      obtain ⟨cc, _, hcc, hcl⟩ := hcell j z hz2
      have hcc' : cc = [Value.int k z] := hcc
      subst hcc'
      have := hcl 0 (.int k z) rfl
      rw [hsz1] at this
      simpa using this
    · intro w' hw' hb'
      rw [hml]
      refine h w' ⟨⟨h0, (copied xs ys).map (Value.int k), ⟨by rw [List.length_map, hsz1, Nat.mul_one], .inr ⟨g, cap, (splice cur.toList 0 ((ys.take xs.length).map (Value.int k))).toArray, by rw [copied_length], hg, hw'.out, by rw [copied_length]; exact hnc, hcm, ?_, ?_⟩⟩, reps_nums _⟩⟩ hb'
      · rw [List.size_toArray, length_splice _ _ _ (by rw [hml]; omega), hcl, hsz1]; omega
      · rw [copied_length, hsz1, Nat.mul_one, List.toList_toArray]
        unfold splice copied
        rw [List.take_zero, List.nil_append, Nat.zero_add, hml, List.map_append, List.take_append, List.length_map, List.length_take]
        have e1 : List.take xs.length (List.map (Value.int k) (List.take xs.length ys)) = List.map (Value.int k) (List.take xs.length ys) := List.take_of_length_le (by rw [List.length_map, List.length_take]; omega)
        rw [e1]
        congr 1
        rw [List.map_drop, ← hin, ← htake, List.take_drop, List.drop_take]
        rw [List.drop_take]
        congr 1
        omega
end Go.Proofs.Ytdleoljbnjjdgaa.CopyR
