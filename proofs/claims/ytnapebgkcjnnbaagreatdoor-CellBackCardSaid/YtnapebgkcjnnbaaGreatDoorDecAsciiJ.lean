/-
  A number's text is of ASCII letters, and at most 400 of them. No condition.
-/
import Derived.Test.YtnapebgkcjnnbaaGreatDoorDecGJ
namespace Go.Proofs.YtnapebgkcjnnbaaGreatDoor
set_option linter.unusedVariables false
def Asc (l : List UInt8) : Prop := ∀ c ∈ l, c.toNat < 128
theorem isDig_asc {c : UInt8} (h : isDig c = true) : c.toNat < 128 := by simp [isDig] at h; omega
theorem Asc.append {a b : List UInt8} (ha : Asc a) (hb : Asc b) : Asc (a ++ b) := fun c hc => by
  rcases List.mem_append.1 hc with h | h
  · exact ha c h
  · exact hb c h
theorem prefix_one {l : List UInt8} {k : UInt8} (h : Lib.hasPrefix l [k] = true) : l = k :: l.drop 1 := by
  cases l with
  | nil => simp [Lib.hasPrefix] at h
  | cons c l =>
    have : k = c := by simpa [Lib.hasPrefix] using h
    rw [this]; rfl
theorem asc_cons {k : UInt8} {l : List UInt8} (hk : k.toNat < 128) (h : Asc l) : Asc (k :: l) := fun c hc => by
  rcases List.mem_cons.1 hc with rfl | hc
  · exact hk
  · exact h c hc
theorem powerN_asc {l : List UInt8} {q : Int} (h : powerN l = some q) : Asc l := by
  unfold powerN at h
  split at h
  · cases h
  · rename_i hn
    have hd : digN (signed l) = (signed l).length := by
      by_cases he : digN (signed l) = (signed l).length
      · exact he
      · exact absurd (.inr he) hn
    have hs : Asc (signed l) := fun c hc => by
      rw [← List.take_length (l := signed l), ← hd, take_dig] at hc
      exact isDig_asc (takeWhile_all hc)
    unfold signed at hs
    by_cases h1 : Lib.hasPrefix l [45] = true
    · rw [h1] at hs; rw [prefix_one h1]; exact asc_cons (by decide) hs
    · by_cases h2 : Lib.hasPrefix l [43] = true
      · rw [h2, Bool.or_true] at hs; rw [prefix_one h2]; exact asc_cons (by decide) hs
      · rw [if_neg (by simp [h1, h2])] at hs; exact hs
theorem parse_asc {l : List UInt8} {x : Num} (h : parseN l = some x) : l.length ≤ 400 ∧ Asc l := by
  unfold parseN at h
  split at h
  · cases h
  rename_i hl
  split at h
  · cases h
  rename_i hd
  obtain ⟨pr, hpr, h⟩ := Option.bind_eq_some_iff.1 h
  obtain ⟨e, he, h⟩ := Option.map_eq_some_iff.1 h
  refine ⟨by omega, ?_⟩
  have hE : Asc pr.2 := by
    unfold expN at he
    split at he
    · rename_i h0; rw [h0]; exact fun c hc => by cases hc
    · rename_i c r h0
      rw [h0]
      split at he
      · rename_i hc
        refine asc_cons ?_ (powerN_asc he)
        rcases hc with rfl | rfl <;> decide
      · cases he
  have hD : Asc ((Lib.trimPrefix l [45]).drop (digN (Lib.trimPrefix l [45]))) := by
    generalize (Lib.trimPrefix l [45]).drop (digN (Lib.trimPrefix l [45])) = r at hpr
    unfold partN at hpr
    split at hpr
    · rename_i h46
      split at hpr
      · cases hpr
      · cases hpr
        rw [prefix_one h46]
        refine asc_cons (by decide) ?_
        rw [← List.take_append_drop (digN (r.drop 1)) (r.drop 1)]
        refine Asc.append (fun c hc => ?_) ?_
        · rw [take_dig] at hc; exact isDig_asc (takeWhile_all hc)
        · rw [List.drop_drop, Nat.add_comm]; exact hE
    · cases hpr; exact hE
  have hR : Asc (Lib.trimPrefix l [45]) := by
    rw [← List.take_append_drop (digN (Lib.trimPrefix l [45])) (Lib.trimPrefix l [45])]
    refine Asc.append (fun c hc => ?_) hD
    rw [take_dig] at hc; exact isDig_asc (takeWhile_all hc)
  unfold Lib.trimPrefix at hR
  split at hR
  · rename_i h45; rw [prefix_one h45]; exact asc_cons (by decide) hR
  · exact hR
theorem good_ascii {s : ByteArray} (h : goodN s.data.toList = true) : s.size ≤ 400 ∧ ∀ (j : Nat) b, s.data.toList[j]? = some b → b.toNat < 128 := by
  unfold goodN at h
  obtain ⟨x, hx⟩ := Option.isSome_iff_exists.1 h
  obtain ⟨h1, h2⟩ := parse_asc hx
  exact ⟨by rw [Lib.size_eq]; exact h1, fun j b hb => h2 b (List.mem_of_getElem? hb)⟩
end Go.Proofs.YtnapebgkcjnnbaaGreatDoor
