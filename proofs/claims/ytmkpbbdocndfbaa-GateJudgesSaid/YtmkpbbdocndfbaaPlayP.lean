/- Plain lists: what the document's lanes do to a sorted list (no program in sight). -/
import Derived.Test.YtmkpbbdocndfbaaLives10
namespace Go.Proofs.Ytmkpbbdocndfbaa
open Go.RowKit Go.Proofs

namespace St
theorem Srt.sub {τ : Type} {key : τ → Int} {l l' : List τ} (h : Srt key l) (hs : l'.Sublist l) : Srt key l' := List.Pairwise.sublist hs h
theorem srt_filter {τ : Type} {key : τ → Int} (p : τ → Bool) (l : List τ) : srt key ((srt key l).filter p) = (srt key l).filter p := srt_id ((srt_srt l).sub List.filter_sublist)
theorem srt_drop {τ : Type} {key : τ → Int} (n : Nat) (l : List τ) : srt key ((srt key l).drop n) = (srt key l).drop n := srt_id ((srt_srt l).sub (List.drop_sublist _ _))
/-- Where the new one goes. -/
theorem ins_at {τ : Type} {key : τ → Int} {x : τ} {l : List τ} (h : Srt key l) {i : Nat} (hi : i ≤ l.length) (ha : ∀ j y, i ≤ j → l[j]? = some y → key x < key y) (hb : ∀ y, 0 < i → l[i - 1]? = some y → key y ≤ key x) : ins key x l = l.take i ++ x :: l.drop i := by
  conv => lhs; rw [← List.take_append_drop i l]
  refine ins_split (fun y hy => ?_) (fun y hy => ?_)
  · have h0 : 0 < i := by
      rcases Nat.eq_zero_or_pos i with h0 | h0
      · subst h0; simp at hy
      · exact h0
    obtain ⟨j, hj⟩ := List.mem_iff_getElem?.1 hy
    rw [List.getElem?_take] at hj
    split at hj
    · rename_i hji
      have hl : i - 1 < l.length := by omega
      have h1 := hb _ h0 (List.getElem?_eq_getElem hl)
      rcases Nat.lt_or_ge j (i - 1) with hlt | hge
      · have h2 := (List.pairwise_iff_getElem.1 h) j (i - 1) (by omega) hl hlt
        rw [List.getElem?_eq_getElem (by omega)] at hj
        cases hj
        omega
      · have : j = i - 1 := by omega
        subst this
        rw [List.getElem?_eq_getElem hl] at hj
        cases hj
        exact h1
    · cases hj
  · rw [List.head?_drop] at hy
    exact ha i y (Nat.le_refl _) hy
end St
theorem takeR_drop (l : List Msg) : (takeR l).2.2 = l.drop 1 := by cases l <;> rfl
end Go.Proofs.Ytmkpbbdocndfbaa
