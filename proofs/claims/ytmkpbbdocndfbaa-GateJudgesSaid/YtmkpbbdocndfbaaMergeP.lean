/- Plain lists: merging two sorted neighbours by parts (no program in sight). -/
import Derived.Test.YtmkpbbdocndfbaaSortP
namespace Go.Proofs.Ytmkpbbdocndfbaa
namespace St
variable {τ : Type} {key : τ → Int}
theorem last_le {A : List τ} {x y : τ} (hA : Srt key A) (hx : A.getLast? = some x) (hy : y ∈ A) : key y ≤ key x := by
  rcases List.eq_nil_or_concat A with rfl | ⟨A', z, rfl⟩
  · cases hy
  · rw [List.concat_eq_append] at *
    simp only [List.getLast?_append, List.getLast?_singleton] at hx
    cases hx
    rcases List.mem_append.1 hy with hy | hy
    · exact (Srt.parts hA).2.2 y hy _ (by simp)
    · simp at hy; subst hy; exact Int.le_refl _
theorem head_le {B : List τ} {x y : τ} (hB : Srt key B) (hx : B.head? = some x) (hy : y ∈ B) : key x ≤ key y := by
  cases B with
  | nil => cases hy
  | cons z B =>
    cases hx
    rcases List.mem_cons.1 hy with rfl | hy
    · exact Int.le_refl _
    · exact (List.pairwise_cons.1 hB).1 y hy
theorem le_ends {A B : List τ} (hA : Srt key A) (hB : Srt key B) (h : ∀ x y, A.getLast? = some x → B.head? = some y → key x ≤ key y) : ∀ x ∈ A, ∀ y ∈ B, key x ≤ key y := by
  intro x hx y hy
  cases hl : A.getLast? with
  | none => rw [List.getLast?_eq_none_iff.1 hl] at hx; cases hx
  | some a =>
    cases hh : B.head? with
    | none => rw [List.head?_eq_none_iff.1 hh] at hy; cases hy
    | some b => have h1 := last_le hA hl hx; have h2 := head_le hB hh hy; have h3 := h a b hl hh; omega
theorem lt_ends {A B : List τ} (hA : Srt key A) (hB : Srt key B) (h : ∀ x y, A.getLast? = some x → B.head? = some y → key x < key y) : ∀ x ∈ A, ∀ y ∈ B, key x < key y := by
  intro x hx y hy
  cases hl : A.getLast? with
  | none => rw [List.getLast?_eq_none_iff.1 hl] at hx; cases hx
  | some a =>
    cases hh : B.head? with
    | none => rw [List.head?_eq_none_iff.1 hh] at hy; cases hy
    | some b => have h1 := last_le hA hl hx; have h2 := head_le hB hh hy; have h3 := h a b hl hh; omega
theorem merge_split {A1 A2 B1 B2 : List τ} (hA : Srt key (A1 ++ A2)) (hB : Srt key (B1 ++ B2)) (h1 : ∀ x y, A1.getLast? = some x → B2.head? = some y → key x ≤ key y) (h2 : ∀ y x, B1.getLast? = some y → A2.head? = some x → key y < key x) :
    srt key (A1 ++ B1) ++ srt key (A2 ++ B2) = srt key (A1 ++ A2 ++ (B1 ++ B2)) := by
  obtain ⟨sA1, sA2, hAA⟩ := Srt.parts hA
  obtain ⟨sB1, sB2, hBB⟩ := Srt.parts hB
  have hl := le_ends sA1 sB2 h1
  have hs := lt_ends sB1 sA2 h2
  refine srt_uniq (Srt.app (srt_srt _) (srt_srt _) fun x hx y hy => ?_) ?_
  · rcases List.mem_append.1 (srt_mem.1 hx) with hx | hx <;> rcases List.mem_append.1 (srt_mem.1 hy) with hy | hy
    · exact hAA x hx y hy
    · exact hl x hx y hy
    · have := hs x hx y hy; omega
    · exact hBB x hx y hy
  · have e1 : A1 ++ A2 ++ (B1 ++ B2) = A1 ++ ((A2 ++ B1) ++ B2) := by simp
    have e2 : A1 ++ ((B1 ++ A2) ++ B2) = (A1 ++ B1) ++ (A2 ++ B2) := by simp
    rw [e1]
    have h3 : Stb key (A1 ++ ((A2 ++ B1) ++ B2)) ((A1 ++ B1) ++ (A2 ++ B2)) := by
      rw [← e2]
      exact (Stb.refl A1).app ((Stb.swap fun x hx y hy => by have := hs y hy x hx; omega).app (Stb.refl B2))
    exact h3.trans ((srt_stb _).app (srt_stb _))
theorem merge_one {x : τ} {B1 B2 : List τ} (hB : Srt key (B1 ++ B2)) (h1 : ∀ y, B1.getLast? = some y → key y < key x) (h2 : ∀ y, B2.head? = some y → key x ≤ key y) : srt key ([x] ++ (B1 ++ B2)) = B1 ++ x :: B2 := by
  have h := merge_split (A1 := []) (A2 := [x]) (B1 := B1) (B2 := B2) (by simp [Srt]) hB (by simp) (by simpa using h1)
  obtain ⟨sB1, sB2, hBB⟩ := Srt.parts hB
  have h3 : Srt key ([x] ++ B2) := Srt.app (by simp [Srt]) sB2 fun a ha y hy => by
    simp at ha; subst ha
    exact le_ends (A := [a]) (by simp [Srt]) sB2 (fun x z hx hz => by simp at hx; subst hx; exact h2 z hz) a (by simp) y hy
  rw [List.nil_append, srt_id sB1, srt_id h3] at h
  simpa using h.symm
theorem merge_end {y : τ} {A1 A2 : List τ} (hA : Srt key (A1 ++ A2)) (h1 : ∀ x, A1.getLast? = some x → key x ≤ key y) (h2 : ∀ x, A2.head? = some x → key y < key x) : srt key (A1 ++ A2 ++ [y]) = A1 ++ y :: A2 := by
  rw [srt_snoc, srt_id hA]
  obtain ⟨sA1, sA2, hAA⟩ := Srt.parts hA
  exact ins_split (le_ends sA1 (B := [y]) (by simp [Srt]) (by simpa using h1) · · y (by simp)) h2
theorem last_take {l : List τ} {t : Nat} {x : τ} (h : l[t]? = some x) : (l.take (t + 1)).getLast? = some x := by
  rw [List.take_succ_eq_append_getElem (by exact (List.getElem?_eq_some_iff.1 h).1)]
  simp [(List.getElem?_eq_some_iff.1 h).2]
theorem head_drop {l : List τ} {t : Nat} : (l.drop t).head? = l[t]? := by simp
end St
end Go.Proofs.Ytmkpbbdocndfbaa
