/-
  The reference's Int, put together: just dec's. Condition: a text of at most 1000 bytes.
-/
import Derived.Test.YtkdejdmmgjibmaaDoorRefInt
namespace Go.Proofs.YtkdejdmmgjibmaaDoor
open Go.RowKit
set_option linter.unusedVariables false
set_option linter.unusedSimpArgs false
theorem any_mem {l cs : List UInt8} {c : UInt8} (hc : c ∈ l) (h : cs.contains c = true) : Lib.containsAny l cs = true := by
  have key : 0 ≤ Lib.indexAny l cs := by
    induction l with
    | nil => cases hc
    | cons a l ih =>
      unfold Lib.indexAny
      split
      · omega
      · rename_i hn
        rcases List.mem_cons.1 hc with rfl | hc
        · exact absurd h hn
        · have := ih hc
          have hne : (Lib.indexAny l cs == -1) = false := by
            cases hq : (Lib.indexAny l cs == -1)
            · rfl
            · have := eq_of_beq hq; omega
          rw [hne]; simp; omega
  unfold Lib.containsAny
  exact decide_eq_true key
theorem trim_back (l : List UInt8) : l = minus (Lib.hasPrefix l [45]) ++ Lib.trimPrefix l [45] := by
  cases h : Lib.hasPrefix l [45]
  · rw [no_trim h]; rfl
  · have e := prefix_one h
    unfold Lib.trimPrefix
    rw [h]
    exact e
/-- What stands in a text that parts reads. -/
theorem parts_in {l : List UInt8} {b : Bool} {W P p : List UInt8} (h : partsN l = some (b, W, P, p)) : (∀ c ∈ W, isDig c = true) ∧ W ≠ [] ∧ (P = [] → p = [] → l = minus b ++ W) ∧ (P ≠ [] → (46 : UInt8) ∈ l) ∧ (p ≠ [] → (101 : UInt8) ∈ l ∨ (69 : UInt8) ∈ l) := by
  have hb := trim_back l
  unfold partsN at h
  split at h
  · cases h
  rename_i hc
  obtain ⟨pr, hpr, h⟩ := Option.bind_eq_some_iff.1 h
  obtain ⟨q, hq, h⟩ := Option.map_eq_some_iff.1 h
  simp only [Prod.mk.injEq] at h
  obtain ⟨rfl, rfl, rfl, rfl⟩ := h
  have hR := List.take_append_drop (digN (Lib.trimPrefix l [45])) (Lib.trimPrefix l [45])
  have hn : digN (Lib.trimPrefix l [45]) ≠ 0 := fun e => hc (.inl e)
  generalize Lib.trimPrefix l [45] = R at *
  have hmem : ∀ c ∈ R.drop (digN R), c ∈ l := fun c hc => by rw [hb]; exact List.mem_append_right _ (List.mem_of_mem_drop hc)
  have hrest : (∀ c ∈ pr.2, c ∈ l) ∧ (pr.1 ≠ [] → (46 : UInt8) ∈ l) ∧ (pr.1 = [] → pr.2 = R.drop (digN R)) := by
    generalize hr : R.drop (digN R) = r at *
    unfold partN at hpr
    split at hpr
    · rename_i h46
      split at hpr
      · cases hpr
      · rename_i hk
        cases hpr
        have e := prefix_one h46
        refine ⟨fun c hc => hmem c (List.mem_of_mem_drop hc), fun _ => hmem 46 (by rw [e]; simp), fun h0 => ?_⟩
        exfalso
        have := congrArg List.length h0
        simp only [List.length_take, List.length_nil] at this
        have := digN_le (r.drop 1)
        omega
    · cases hpr
      exact ⟨hmem, fun h0 => absurd rfl h0, fun _ => rfl⟩
  have hl := digN_le R
  refine ⟨fun c hc => ?_, fun e => ?_, fun h1 h2 => ?_, hrest.2.1, fun h2 => ?_⟩
  · rw [take_dig] at hc; exact takeWhile_all hc
  · have := congrArg List.length e
    simp only [List.length_take, List.length_nil] at this
    omega
  · have h3 := hrest.2.2 h1
    have h4 : pr.2 = [] := by
      cases hp2 : pr.2 with
      | nil => rfl
      | cons c t =>
        rw [hp2] at hq
        have e : tailN (c :: t) = if (c = 101 ∨ c = 69) ∧ formP t = true then some t else none := rfl
        rw [e] at hq
        split at hq
        · rename_i hf
          cases hq
          rw [h2] at hf
          exact absurd hf.2 (by decide)
        · cases hq
    rw [h4] at h3
    rw [← h3, List.append_nil] at hR
    rw [hR]
    exact hb
  · cases hp2 : pr.2 with
    | nil =>
      rw [hp2] at hq
      have e : tailN [] = some [] := rfl
      rw [e] at hq; cases hq
      exact absurd rfl h2
    | cons c t =>
      have hcl := hrest.1 c (by rw [hp2]; simp)
      rw [hp2] at hq
      have e : tailN (c :: t) = if (c = 101 ∨ c = 69) ∧ formP t = true then some t else none := rfl
      rw [e] at hq
      split at hq
      · rename_i hf
        rcases hf.1 with rfl | rfl
        · exact .inl hcl
        · exact .inr hcl
      · cases hq
theorem rint_any (s : ByteArray) (w : World) (hs : s.size ≤ 1000) : Calls Tryd.prog 15 #[.string s] w fun e w' => e = .returned (.tuple #[.int .i64 ((intN s.data.toList).getD 0), .bool (intN s.data.toList).isSome]) ∧ w' = w := by
  cases hg : goodN s.data.toList with
  | false =>
    have : intN s.data.toList = none := by unfold intN; rw [if_neg (by simp [hg])]
    rw [this]; exact rint_bad s w hs hg
  | true =>
    by_cases hm : s.toList = [45, 48]
    · have : intN s.data.toList = none := by unfold intN; rw [if_neg (fun h => h.2.2 (ba_toList.1 hm))]
      rw [this]; exact rint_minus s w hs hg hm
    obtain ⟨x, hx⟩ := Option.isSome_iff_exists.1 hg
    have hl := (parse_asc hx).1
    cases hq : partsN s.data.toList with
    | none => rw [parse_parts hl, hq] at hx; cases hx
    | some q =>
      obtain ⟨b, W, P, p⟩ := q
      obtain ⟨hd, hne, hlit, hP, hp⟩ := parts_in hq
      have hlen := parts_len hq
      obtain ⟨l1, l2, l3⟩ := hlen
      simp only at l1 l2 l3
      have hV : partsV ((partsN s.data.toList).map toBA) = .tuple #[.bool b, .string ⟨W.toArray⟩, .string ⟨P.toArray⟩, .string ⟨p.toArray⟩, .bool true] := by rw [hq]; rfl
      by_cases h0 : P = [] ∧ p = []
      · obtain ⟨rfl, rfl⟩ := h0
        have hl2 := hlit rfl rfl
        have hno : Lib.containsAny s.data.toList [46, 101, 69] = false := by
          rw [hl2]
          refine noAny fun c hc => ?_
          have hcd : c = 45 ∨ isDig c = true := by
            rcases List.mem_append.1 hc with hc | hc
            · left
              unfold minus at hc
              split at hc
              · exact List.mem_singleton.1 hc
              · cases hc
            · exact .inr (hd c hc)
          rcases hcd with rfl | hcd
          · decide
          · have := dig_range hcd
            cases hk : ([46, 101, 69] : List UInt8).contains c
            · rfl
            · simp at hk
              rcases hk with rfl | rfl | rfl <;> simp at this
        have hi : intN s.data.toList = (match Lib.parseIntB 64 s.data.toList with | .ok v => some v | _ => none) := by unfold intN; rw [if_pos ⟨hg, hno, fun h => hm (ba_toList.2 h)⟩]; rfl
        have hk := parseInt_lit b hd hne
        rw [← hl2] at hk
        have hi2 := hi.trans hk
        exact rint_ok s w hs hg hm b ⟨W.toArray⟩ hV (by rw [Lib.size_eq]; show W.length ≤ 1000; omega) hd _ hi2
      · have hany : Lib.containsAny s.data.toList [46, 101, 69] = true := by
          by_cases hP0 : P = []
          · have hp0 : p ≠ [] := fun e => h0 ⟨hP0, e⟩
            rcases hp hp0 with h | h
            · exact any_mem h (by decide)
            · exact any_mem h (by decide)
          · exact any_mem (hP hP0) (by decide)
        have : intN s.data.toList = none := by unfold intN; rw [if_neg (fun h => by rw [hany] at h; cases h.2.1)]
        rw [this]
        refine rint_frac s w hs hg hm b _ _ _ hV ?_
        by_cases hP0 : P = []
        · right; rw [Lib.toList_data]; exact fun e => h0 ⟨hP0, e⟩
        · left; rw [Lib.toList_data]; exact hP0
end Go.Proofs.YtkdejdmmgjibmaaDoor
