/- Plain lists: sorting by a key so that those of one key keep their row (no program in sight). -/
namespace Go.Proofs.Ytmkpbbdocndfbaa
namespace St
variable {τ : Type} (key : τ → Int)
/-- x behind all that are no greater. -/
def ins (x : τ) : List τ → List τ
  | [] => [x]
  | y :: r => if key x < key y then x :: y :: r else y :: ins x r
def srt (l : List τ) : List τ := l.foldl (fun acc x => ins key x acc) []
def Srt (l : List τ) : Prop := l.Pairwise fun a b => key a ≤ key b
/-- Those of each key are the same, in one row. -/
def Stb (l l' : List τ) : Prop := ∀ c, l'.filter (fun x => key x == c) = l.filter (fun x => key x == c)
variable {key}
theorem Stb.refl (l : List τ) : Stb key l l := fun _ => rfl
theorem Stb.trans {a b c : List τ} (h : Stb key a b) (k : Stb key b c) : Stb key a c := fun x => (k x).trans (h x)
theorem Stb.app {a b c d : List τ} (h : Stb key a b) (k : Stb key c d) : Stb key (a ++ c) (b ++ d) := fun x => by rw [List.filter_append, List.filter_append, h x, k x]
theorem Stb.mem {a b : List τ} (h : Stb key a b) {x : τ} : x ∈ b ↔ x ∈ a := by
  have h1 := h (key x)
  constructor <;> intro hx
  · have : x ∈ b.filter (fun y => key y == key x) := List.mem_filter.2 ⟨hx, by simp⟩
    rw [h1] at this
    exact (List.mem_filter.1 this).1
  · have : x ∈ a.filter (fun y => key y == key x) := List.mem_filter.2 ⟨hx, by simp⟩
    rw [← h1] at this
    exact (List.mem_filter.1 this).1
/-- Two parts that share no key may change places. -/
theorem Stb.swap {a b : List τ} (h : ∀ x ∈ a, ∀ y ∈ b, key x ≠ key y) : Stb key (a ++ b) (b ++ a) := fun c => by
  rw [List.filter_append, List.filter_append]
  by_cases ha : ∃ x ∈ a, key x = c
  · obtain ⟨x, hx, rfl⟩ := ha
    have : b.filter (fun y => key y == key x) = [] := List.filter_eq_nil_iff.2 fun y hy => by have := h x hx y hy; simp; omega
    rw [this]; simp
  · have : a.filter (fun y => key y == c) = [] := List.filter_eq_nil_iff.2 fun y hy => by simp; exact fun e => ha ⟨y, hy, e⟩
    rw [this]; simp
/-- Sorted lists with the same ones of each key are one. -/
theorem uniq : ∀ {l l' : List τ}, Srt key l → Srt key l' → Stb key l l' → l = l'
  | [], [], _, _, _ => rfl
  | [], y :: r, _, _, h => by have := h.mem.1 (List.mem_cons_self (a := y) (l := r)); cases this
  | x :: r, [], _, _, h => by have := h.mem.2 (List.mem_cons_self (a := x) (l := r)); cases this
  | x :: r, y :: r', h1, h2, h => by
    have hy : y ∈ x :: r := h.mem.1 (List.mem_cons_self ..)
    have hx : x ∈ y :: r' := h.mem.2 (List.mem_cons_self ..)
    have hxy : key x ≤ key y := by
      rcases List.mem_cons.1 hy with rfl | hy
      · omega
      · exact (List.pairwise_cons.1 h1).1 y hy
    have hyx : key y ≤ key x := by
      rcases List.mem_cons.1 hx with rfl | hx
      · omega
      · exact (List.pairwise_cons.1 h2).1 x hx
    have he : key x = key y := by omega
    have hc := h (key x)
    rw [List.filter_cons_of_pos (by simp [he]), List.filter_cons_of_pos (by simp)] at hc
    injection hc with h3 h4
    subst h3
    congr 1
    refine uniq (List.pairwise_cons.1 h1).2 (List.pairwise_cons.1 h2).2 fun c => ?_
    have hc := h c
    by_cases hk : key y = c
    · rw [List.filter_cons_of_pos (by simp [hk]), List.filter_cons_of_pos (by simp [hk])] at hc
      injection hc
    · rw [List.filter_cons_of_neg (by simp [hk]), List.filter_cons_of_neg (by simp [hk])] at hc
      exact hc
theorem ins_split {x : τ} : ∀ {A B : List τ}, (∀ y ∈ A, key y ≤ key x) → (∀ y, B.head? = some y → key x < key y) → ins key x (A ++ B) = A ++ x :: B
  | [], [], _, _ => rfl
  | [], y :: r, _, h => by simp [ins, h y rfl]
  | a :: A, B, hA, hB => by
    have h1 : ¬ key x < key a := by have := hA a (List.mem_cons_self ..); omega
    simp only [List.cons_append, ins, if_neg h1]
    rw [ins_split (fun y hy => hA y (.tail _ hy)) hB]
theorem ins_len (x : τ) : ∀ l : List τ, (ins key x l).length = l.length + 1
  | [] => rfl
  | y :: r => by
    unfold ins
    split
    · rfl
    · simp [ins_len x r]
theorem ins_mem {x y : τ} : ∀ {l : List τ}, y ∈ ins key x l ↔ y = x ∨ y ∈ l
  | [] => by simp [ins]
  | z :: r => by
    unfold ins
    split
    · simp
    · simp only [List.mem_cons, ins_mem (l := r)]
      constructor
      · rintro (h | h | h) <;> simp [h]
      · rintro (h | h | h) <;> simp [h]
theorem ins_srt {x : τ} : ∀ {l : List τ}, Srt key l → Srt key (ins key x l)
  | [], _ => by simp [ins, Srt]
  | y :: r, h => by
    have h1 := List.pairwise_cons.1 h
    unfold ins
    split
    · rename_i hlt
      exact List.pairwise_cons.2 ⟨fun z hz => by
        rcases List.mem_cons.1 hz with rfl | hz
        · omega
        · have := h1.1 z hz; omega, h⟩
    · rename_i hge
      refine List.pairwise_cons.2 ⟨fun z hz => ?_, ins_srt h1.2⟩
      rcases ins_mem.1 hz with rfl | hz
      · omega
      · exact h1.1 z hz
theorem ins_stb {x : τ} : ∀ {l : List τ}, Srt key l → Stb key (l ++ [x]) (ins key x l)
  | [], _ => Stb.refl _
  | y :: r, h => fun c => by
    have h1 := List.pairwise_cons.1 h
    unfold ins
    split
    · rename_i hlt
      have : Stb key ((y :: r) ++ [x]) ([x] ++ (y :: r)) := Stb.swap fun a ha b hb => by
        simp at hb; subst hb
        rcases List.mem_cons.1 ha with rfl | ha
        · omega
        · have := h1.1 a ha; omega
      exact this c
    · have h2 := ins_stb (x := x) h1.2 c
      by_cases hk : key y = c
      · rw [List.cons_append, List.filter_cons_of_pos (by simp [hk]), List.filter_cons_of_pos (by simp [hk]), h2]
      · rw [List.cons_append, List.filter_cons_of_neg (by simp [hk]), List.filter_cons_of_neg (by simp [hk]), h2]
theorem srt_snoc (l : List τ) (x : τ) : srt key (l ++ [x]) = ins key x (srt key l) := by simp [srt, List.foldl_append]
theorem snoc_ind {P : List τ → Prop} (h0 : P []) (h1 : ∀ l x, P l → P (l ++ [x])) (l : List τ) : P l := by
  have key : ∀ n (l : List τ), l.length = n → P l := by
    intro n
    induction n with
    | zero => intro l hl; rw [List.eq_nil_of_length_eq_zero hl]; exact h0
    | succ n ih =>
      intro l hl
      have hne : l ≠ [] := by intro h; simp [h] at hl
      rw [← List.dropLast_concat_getLast hne]
      exact h1 _ _ (ih _ (by simp; omega))
  exact key _ l rfl
theorem srt_srt (l : List τ) : Srt key (srt key l) := snoc_ind (P := fun l => Srt key (srt key l)) (by simp [srt, Srt]) (fun l x ih => by rw [srt_snoc]; exact ins_srt ih) l
theorem srt_stb (l : List τ) : Stb key l (srt key l) := snoc_ind (P := fun l => Stb key l (srt key l)) (Stb.refl _) (fun l x ih => by rw [srt_snoc]; exact (ih.app (Stb.refl [x])).trans (ins_stb (srt_srt l))) l
theorem srt_len (l : List τ) : (srt key l).length = l.length := snoc_ind (P := fun l => (srt key l).length = l.length) rfl (fun l x ih => by rw [srt_snoc, ins_len, ih]; simp) l
theorem srt_mem {l : List τ} {x : τ} : x ∈ srt key l ↔ x ∈ l := (srt_stb l).mem
theorem srt_uniq {l l' : List τ} (h : Srt key l') (hs : Stb key l l') : l' = srt key l := (uniq (srt_srt l) h fun c => (hs c).trans (srt_stb l c).symm).symm
theorem srt_id {l : List τ} (h : Srt key l) : srt key l = l := (srt_uniq h (Stb.refl l)).symm
theorem srt_of {A B : List τ} {C : List τ} (h : Srt key C) (hs : Stb key (srt key A ++ srt key B) C) : C = srt key (A ++ B) := srt_uniq h (((srt_stb A).app (srt_stb B)).trans hs)
/-- Two sorted parts, the first one's last no greater than the second one's first. -/
theorem Srt.app {A B : List τ} (hA : Srt key A) (hB : Srt key B) (h : ∀ x ∈ A, ∀ y ∈ B, key x ≤ key y) : Srt key (A ++ B) := List.pairwise_append.2 ⟨hA, hB, h⟩
theorem Srt.parts {A B : List τ} (h : Srt key (A ++ B)) : Srt key A ∧ Srt key B ∧ ∀ x ∈ A, ∀ y ∈ B, key x ≤ key y := List.pairwise_append.1 h
theorem srt_map {σ : Type} (f : σ → τ) (l : List σ) : (srt (fun s => key (f s)) l).map f = srt key (l.map f) := by
  have hins : ∀ (x : σ) (l : List σ), (ins (fun s => key (f s)) x l).map f = ins key (f x) (l.map f) := by
    intro x l
    induction l with
    | nil => rfl
    | cons y r ih =>
      simp only [ins, List.map_cons]
      split
      · rfl
      · simp [ih]
  exact snoc_ind (P := fun l => (srt (fun s => key (f s)) l).map f = srt key (l.map f)) rfl (fun l x ih => by rw [srt_snoc, hins, ih, List.map_append]; simp [srt_snoc]) l
end St
end Go.Proofs.Ytmkpbbdocndfbaa
