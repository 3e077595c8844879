/- Plain lists: sorting by a key so that those of one key keep their row (no program in sight). -/
import Derived.Test.YtmkpbbdocndfbaaUBB
namespace Go.Proofs.Ytmkpbbdocndfbaa
namespace St
variable {τ : Type} (key : τ → Int)
/-- x behind all that are no greater. -/
def ins (x : τ) : List τ → List τ
  | [] => [x]
  | y :: r => if key x < key y then x :: y :: r else y :: ins x r
def srt (l : List τ) : List τ := l.foldl (fun acc x => ins key x acc) []
def Srt (l : List τ) : Prop := l.Pairwise fun a b => key a ≤ key b
/-- Those of each key are the same, in one row. -/
def Stb (l l' : List τ) : Prop := ∀ c, l'.filter (fun x => key x == c) = l.filter (fun x => key x == c)
variable {key}
theorem Stb.refl (l : List τ) : Stb key l l := fun _ => rfl
theorem Stb.trans {a b c : List τ} (h : Stb key a b) (k : Stb key b c) : Stb key a c := fun x => (k x).trans (h x)
theorem Stb.app {a b c d : List τ} (h : Stb key a b) (k : Stb key c d) : Stb key (a ++ c) (b ++ d) := fun x => by rw [List.filter_append, List.filter_append, h x, k x]
theorem Stb.mem {a b : List τ} (h : Stb key a b) {x : τ} : x ∈ b ↔ x ∈ a := by
  have h1 := h (key x)
  constructor <;> intro hx
  · have : x ∈ b.filter (fun y => key y == key x) := List.mem_filter.2 ⟨hx, by simp⟩
    rw [h1] at this
    exact (List.mem_filter.1 this).1
  · have : x ∈ a.filter (fun y => key y == key x) := List.mem_filter.2 ⟨hx, by simp⟩
    rw [← h1] at this
    exact (List.mem_filter.1 this).1
/-- Two parts that share no key may change places. -/
theorem Stb.swap {a b : List τ} (h : ∀ x ∈ a, ∀ y ∈ b, key x ≠ key y) : Stb key (a ++ b) (b ++ a) := fun c => by
  rw [List.filter_append, List.filter_append]
  by_cases ha : ∃ x ∈ a, key x = c
  · obtain ⟨x, hx, rfl⟩ := ha
    have : b.filter (fun y => key y == key x) = [] := List.filter_eq_nil_iff.2 fun y hy => by have := h x hx y hy; simp; omega
    rw [this]; simp
  · have : a.filter (fun y => key y == c) = [] := List.filter_eq_nil_iff.2 fun y hy => by simp; exact fun e => ha ⟨y, hy, e⟩
    rw [this]; simp
/-- Sorted lists with the same ones of each key are one. -/
theorem uniq : ∀ {l l' : List τ}, Srt key l → Srt key l' → Stb key l l' → l = l'
  | [], [], _, _, _ => rfl
  | [], y :: r, _, _, h => by have := h.mem.1 (List.mem_cons_self (a := y) (l := r)); cases this
  | x :: r, [], _, _, h => by have := h.mem.2 (List.mem_cons_self (a := x) (l := r)); cases this
  | x :: r, y :: r', h1, h2, h => by
    have hy : y ∈ x :: r := h.mem.1 (List.mem_cons_self ..)
    have hx : x ∈ y :: r' := h.mem.2 (List.mem_cons_self ..)
    have hxy : key x ≤ key y := by
      rcases List.mem_cons.1 hy with rfl | hy
      · omega
      · exact (List.pairwise_cons.1 h1).1 y hy
    have hyx : key y ≤ key x := by
      rcases List.mem_cons.1 hx with rfl | hx
      · omega
      · exact (List.pairwise_cons.1 h2).1 x hx
    have he : key x = key y := by omega
    have hc := h (key x)
    rw [List.filter_cons_of_pos (by simp [he]), List.filter_cons_of_pos (by simp)] at hc
    injection hc with h3 h4
    subst h3
    congr 1
    refine uniq (List.pairwise_cons.1 h1).2 (List.pairwise_cons.1 h2).2 fun c => ?_
    have hc := h c
    by_cases hk : key y = c
    · rw [List.filter_cons_of_pos (by simp [hk]), List.filter_cons_of_pos (by simp [hk])] at hc
      injection hc
    · rw [List.filter_cons_of_neg (by simp [hk]), List.filter_cons_of_neg (by simp [hk])] at hc
      exact hc
theorem ins_split {x : τ} : ∀ {A B : List τ}, (∀ y ∈ A, key y ≤ key x) → (∀ y, B.head? = some y → key x < key y) → ins key x (A ++ B) = A ++ x :: B
  | [], [], _, _ => rfl
  | [], y :: r, _, h => by simp [ins, h y rfl]
  | a :: A, B, hA, hB => by
    have h1 : ¬ key x < key a := by have := hA a (List.mem_cons_self ..); omega
    simp only [List.cons_append, ins, if_neg h1]
    rw [ins_split (fun y hy => hA y (.tail _ hy)) hB]
theorem ins_len (x : τ) : ∀ l : List τ, (ins key x l).length = l.length + 1
  | [] => rfl
  | y :: r => by
    unfold ins
    split
    · rfl
    · simp [ins_len x r]
theorem ins_mem {x y : τ} : ∀ {l : List τ}, y ∈ ins key x l ↔ y = x ∨ y ∈ l
  | [] => by simp [ins]
  | z :: r => by
    unfold ins
    split
    · simp
    · simp only [List.mem_cons, ins_mem (l := r)]
      constructor
      · rintro (h | h | h) <;> simp [h]
      · rintro (h | h | h) <;> simp [h]
theorem ins_srt {x : τ} : ∀ {l : List τ}, Srt key l → Srt key (ins key x l)
  | [], _ => by simp [ins, Srt]
  | y :: r, h => by
    have h1 := List.pairwise_cons.1 h
    unfold ins
    split
    · rename_i hlt
      exact List.pairwise_cons.2 ⟨fun z hz => by
        rcases List.mem_cons.1 hz with rfl | hz
        · omega
        · have := h1.1 z hz; omega, h⟩
    · rename_i hge
      refine List.pairwise_cons.2 ⟨fun z hz => ?_, ins_srt h1.2⟩
      rcases ins_mem.1 hz with rfl | hz
      · omega
      · exact h1.1 z hz
theorem ins_stb {x : τ} : ∀ {l : List τ}, Srt key l → Stb key (l ++ [x]) (ins key x l)
  | [], _ => Stb.refl _
  | y :: r, h => fun c => by
    have h1 := List.pairwise_cons.1 h
    unfold ins
    split
    · rename_i hlt
      have : Stb key ((y :: r) ++ [x]) ([x] ++ (y :: r)) := Stb.swap fun a ha b hb => by
        simp at hb; subst hb
        rcases List.mem_cons.1 ha with rfl | ha
        · omega
        · have := h1.1 a ha; omega
      exact this c
    · have h2 := ins_stb (x := x) h1.2 c
      by_cases hk : key y = c
      · rw [List.cons_append, List.filter_cons_of_pos (by simp [hk]), List.filter_cons_of_pos (by simp [hk]), h2]
      · rw [List.cons_append, List.filter_cons_of_neg (by simp [hk]), List.filter_cons_of_neg (by simp [hk]), h2]
theorem srt_snoc (l : List τ) (x : τ) : srt key (l ++ [x]) = ins key x (srt key l) := by simp [srt, List.foldl_append]
theorem snoc_ind {P : List τ → Prop} (h0 : P []) (h1 : ∀ l x, P l → P (l ++ [x])) (l : List τ) : P l := by
  have key : ∀ n (l : List τ), l.length = n → P l := by
    intro n
    induction n with
    | zero => intro l hl; rw [List.eq_nil_of_length_eq_zero hl]; exact h0
    | succ n ih =>
      intro l hl
      have hne : l ≠ [] := by intro h; simp [h] at hl
      rw [← List.dropLast_concat_getLast hne]
      exact h1 _ _ (ih _ (by simp; omega))
  exact key _ l rfl
theorem srt_srt (l : List τ) : Srt key (srt key l) := snoc_ind (P := fun l => Srt key (srt key l)) (by simp [srt, Srt]) (fun l x ih => by rw [srt_snoc]; exact ins_srt ih) l
theorem srt_stb (l : List τ) : Stb key l (srt key l) := snoc_ind (P := fun l => Stb key l (srt key l)) (Stb.refl _) (fun l x ih => by rw [srt_snoc]; exact (ih.app (Stb.refl [x])).trans (ins_stb (srt_srt l))) l
theorem srt_len (l : List τ) : (srt key l).length = l.length := snoc_ind (P := fun l => (srt key l).length = l.length) rfl (fun l x ih => by rw [srt_snoc, ins_len, ih]; simp) l
theorem srt_mem {l : List τ} {x : τ} : x ∈ srt key l ↔ x ∈ l := (srt_stb l).mem
theorem srt_uniq {l l' : List τ} (h : Srt key l') (hs : Stb key l l') : l' = srt key l := (uniq (srt_srt l) h fun c => (hs c).trans (srt_stb l c).symm).symm
theorem srt_id {l : List τ} (h : Srt key l) : srt key l = l := (srt_uniq h (Stb.refl l)).symm
theorem srt_of {A B : List τ} {C : List τ} (h : Srt key C) (hs : Stb key (srt key A ++ srt key B) C) : C = srt key (A ++ B) := srt_uniq h (((srt_stb A).app (srt_stb B)).trans hs)
/-- Two sorted parts, the first one's last no greater than the second one's first. -/
theorem Srt.app {A B : List τ} (hA : Srt key A) (hB : Srt key B) (h : ∀ x ∈ A, ∀ y ∈ B, key x ≤ key y) : Srt key (A ++ B) := List.pairwise_append.2 ⟨hA, hB, h⟩
theorem Srt.parts {A B : List τ} (h : Srt key (A ++ B)) : Srt key A ∧ Srt key B ∧ ∀ x ∈ A, ∀ y ∈ B, key x ≤ key y := List.pairwise_append.1 h
theorem srt_map {σ : Type} (f : σ → τ) (l : List σ) : (srt (fun s => key (f s)) l).map f = srt key (l.map f) := by
  have hins : ∀ (x : σ) (l : List σ), (ins (fun s => key (f s)) x l).map f = ins key (f x) (l.map f) := by
    intro x l
    induction l with
    | nil => rfl
    | cons y r ih =>
      simp only [ins, List.map_cons]
      split
      · rfl
      · simp [ih]
  exact snoc_ind (P := fun l => (srt (fun s => key (f s)) l).map f = srt key (l.map f)) rfl (fun l x ih => by rw [srt_snoc, hins, ih, List.map_append]; simp [srt_snoc]) l
end St
end Go.Proofs.Ytmkpbbdocndfbaa
/- The order of messages: the key functions, cmp.Compare, the closure that lane.sorted makes. -/
namespace Go.Proofs.Ytmkpbbdocndfbaa
open Go.RowKit Go.Proofs
attribute [local irreducible] Yl JL J G GL GA GQ DR

def cmpI (a b : Int) : Int := if a < b then -1 else if b < a then 1 else 0
theorem isNaN_spec (a : Int) (w : World) : Calls Try.prog 156 #[.int .i64 a] w fun e w' => e = .returned (.bool false) ∧ Ext No w w' := by
  refine Calls.of_G1 Try.func156 rfl Try.ntmps156 rfl ?_
  refine J.at (C := Cls w No []) ?_ (Cls.start _ _)
  repeat (first | (apply JL.y; (first | (apply Y_move; rfl) | (apply Y_assign; rfl) | (apply Y_neq; rfl; rfl)); rfl) | refine J.seq ?_ | refine J.region ?_ | refine JL.nil ?_)
  exact J.ret1 Try.func156 Try.results156 (RV.tm rfl) fun w' hw => ⟨ret_bool (by simp), hw.ext⟩
theorem compare_spec (a b : Int) (w : World) : Calls Try.prog 138 #[.int .i64 a, .int .i64 b] w fun e w' => e = .returned (.int .i64 (cmpI a b)) ∧ Ext No w w' := by
  refine Calls.of_G2 Try.func138 rfl Try.ntmps138 rfl ?_
  refine J.at (C := Cls w No []) ?_ (Cls.start _ _)
  repeat (first | (apply JL.y; (first | (apply Y_move; rfl) | (apply Y_assign; rfl)); rfl) | refine J.seq ?_ | refine J.region ?_ | refine JL.nil ?_ | (apply JL.callq; rfl; rfl; (intro wc hwc; first | exact isNaN_spec _ _)))
  apply J.cond_f rfl
  repeat (first | (apply JL.y; (apply Y_move; rfl); rfl) | refine J.seq ?_ | refine J.region ?_ | refine JL.nil ?_ | refine J.skip ?_)
  apply J.cond_f rfl
  repeat (first | (apply JL.y; (first | (apply Y_move; rfl) | (apply Y_lss; rfl; rfl)); rfl) | refine J.seq ?_ | refine J.region ?_ | refine JL.nil ?_ | refine J.skip ?_)
  refine J.cond_d rfl (fun h => ?_) (fun h => ?_)
  · repeat (first | (apply JL.y; (apply Y_assign; rfl); rfl) | refine J.seq ?_ | refine J.region ?_ | refine JL.nil ?_)
    exact J.ret1 Try.func138 Try.results138 (RV.tm rfl) fun w' hw => ⟨ret_eq (by rw [cmpI, if_pos h]), hw.ext⟩
  repeat (first | (apply JL.y; (first | (apply Y_move; rfl) | (apply Y_gtr; rfl; rfl)); rfl) | refine J.seq ?_ | refine J.region ?_ | refine JL.nil ?_ | refine J.skip ?_)
  refine J.cond_d rfl (fun h2 => ?_) (fun h2 => ?_)
  · repeat (first | (apply JL.y; (apply Y_assign; rfl); rfl) | refine J.seq ?_ | refine J.region ?_ | refine JL.nil ?_)
    exact J.ret1 Try.func138 Try.results138 (RV.tm rfl) fun w' hw => ⟨ret_eq (by rw [cmpI, if_neg h, if_pos h2]), hw.ext⟩
  repeat (first | (apply JL.y; (apply Y_assign; rfl); rfl) | refine J.seq ?_ | refine J.region ?_ | refine JL.nil ?_ | refine J.skip ?_)
  exact J.ret1 Try.func138 Try.results138 (RV.tm rfl) fun w' hw => ⟨ret_eq (by rw [cmpI, if_neg h, if_neg h2]), hw.ext⟩
/-- A function that tells a message's lane. -/
structure KeyFn (kf : Nat) : Prop where
  ci : CI Try.prog kf
  run : ∀ (w : World) (ws : Value) (m : Msg), Calls Try.prog kf #[.agg (msgC ws m).toArray] w fun e w' => e = .returned (.int .i64 m.lane) ∧ Ext No w w'
theorem keyAll : KeyFn 112 := ⟨inferInstance, fun w ws m => by
  refine Calls.of_G1 Try.func112 rfl Try.ntmps112 rfl ?_
  refine J.at (C := Cls w No []) ?_ (Cls.start _ _)
  unfold msgC
  repeat (first | (apply JL.y; (first | (apply Y_assign; rfl) | (apply Y_fieldAddr; rfl; rfl) | (apply Y_load1 0; rfl; rfl; rfl; exact inferInstance)); rfl) | refine J.seq ?_ | refine J.region ?_ | refine JL.nil ?_ | (apply JL.box; rfl; rfl; rfl; intro _))
  exact J.ret1 Try.func112 Try.results112 (RV.tm rfl) fun w' hw => ⟨rfl, hw.ext⟩⟩
theorem keySplit : KeyFn 143 := ⟨inferInstance, fun w ws m => by
  refine Calls.of_G1 Try.func143 rfl Try.ntmps143 rfl ?_
  refine J.at (C := Cls w No []) ?_ (Cls.start _ _)
  unfold msgC
  repeat (first | (apply JL.y; (first | (apply Y_assign; rfl) | (apply Y_fieldAddr; rfl; rfl) | (apply Y_load1 0; rfl; rfl; rfl; exact inferInstance)); rfl) | refine J.seq ?_ | refine J.region ?_ | refine JL.nil ?_ | (apply JL.box; rfl; rfl; rfl; intro _))
  exact J.ret1 Try.func143 Try.results143 (RV.tm rfl) fun w' hw => ⟨rfl, hw.ext⟩⟩
/-- The variable that the comparing closure looks into. -/
def KeyAt (kb : Nat) (w : World) : Prop := ∃ kf, KeyFn kf ∧ BlkIn w ⟨kb, [.func (.func kf) #[] #[]], 143⟩
/-- The comparing closure. -/
theorem cmp_spec {w : World} {kb : Nat} (hk : KeyAt kb w) (p q : Value × Msg) (_ : p.1.oneCell' = true) (_ : q.1.oneCell' = true) :
    Calls Try.prog 146 #[.agg (msgC p.1 p.2).toArray, .agg (msgC q.1 q.2).toArray, .pointer (some ⟨kb, 0, none⟩)] w fun e w' => e = .returned (.int .i64 (cmpI p.2.lane q.2.lane)) ∧ Ext No w w' := by
  obtain ⟨kf, hkf, hb⟩ := hk
  have hci := hkf.ci
  refine Calls.of_G3 Try.func146 rfl Try.ntmps146 rfl ?_
  refine J.at (C := Cls w No []) ?_ (Cls.start _ _)
  have hl : Foot (Lds Try.prog 143 ⟨kb, 0, none⟩ (.func (.func kf) #[] #[])) w (fun k => k = kb) := fun w' hw' => Lds.one ((hw' kb rfl hb.lt).trans hb) rfl
  unfold msgC
  repeat (first | (apply JL.y; (apply Y_assign; rfl); rfl) | refine J.seq ?_ | refine J.region ?_ | refine JL.nil ?_ | (apply JL.box; rfl; rfl; rfl; intro _))
  refine J.draw (S := Cls _ _ _) [] #[false, false, false, false, false, false, false, false] rfl rfl (fun w hw => hw.drew) (fun w hS => ?_)
  (apply DR.take 0 #[true, false, false, false, false, false, false, false]; rfl; kernel_rfl; exact Y_loadP rfl fun w hw => hl.at_ hw.ext fun _ _ _ h => h; rfl; exact hS)
  (apply DR.take 1 #[true, true, false, false, false, false, false, false]; rfl; kernel_rfl; (first | (apply Y_load1 0; rfl; rfl; rfl; exact inferInstance) | (apply Y_load1 1; rfl; rfl; rfl; exact inferInstance) | (apply Y_load1 2; rfl; rfl; rfl; exact inferInstance) | (apply Y_load1 3; rfl; rfl; rfl; exact inferInstance) | (apply Y_loadW 0; rfl; rfl; exact inferInstance; rfl) | (apply Y_loadW 1; rfl; rfl; exact inferInstance; rfl) | (apply Y_loadW 2; rfl; rfl; exact inferInstance; rfl) | (apply Y_loadW 3; rfl; rfl; exact inferInstance; rfl)); rfl; exact hS)
  (apply DR.take 3 #[true, true, false, true, false, false, false, false]; rfl; kernel_rfl; exact Y_loadP rfl fun w hw => hl.at_ hw.ext fun _ _ _ h => h; rfl; exact hS)
  (apply DR.take 4 #[true, true, false, true, true, false, false, false]; rfl; kernel_rfl; (first | (apply Y_load1 0; rfl; rfl; rfl; exact inferInstance) | (apply Y_load1 1; rfl; rfl; rfl; exact inferInstance) | (apply Y_load1 2; rfl; rfl; rfl; exact inferInstance) | (apply Y_load1 3; rfl; rfl; rfl; exact inferInstance) | (apply Y_loadW 0; rfl; rfl; exact inferInstance; rfl) | (apply Y_loadW 1; rfl; rfl; exact inferInstance; rfl) | (apply Y_loadW 2; rfl; rfl; exact inferInstance; rfl) | (apply Y_loadW 3; rfl; rfl; exact inferInstance; rfl)); rfl; exact hS)
  refine DR.callqC (cap := []) 2 #[true, true, true, true, true, false, false, false] rfl (by kernel_rfl) rfl rfl hci rfl rfl (hkf.run _ p.1 p.2) (fun w' hw' => hS.ext0 hw') (fun w hE hS => ?_)
  refine DR.callqC (cap := []) 5 #[true, true, true, true, true, true, false, false] rfl (by kernel_rfl) rfl rfl hci rfl rfl (hkf.run _ q.1 q.2) (fun w' hw' => hS.ext0 hw') (fun w hE hS => ?_)
  refine DR.callq 6 #[true, true, true, true, true, true, true, false] rfl (by kernel_rfl) rfl rfl rfl (compare_spec _ _ _) (fun w' hw' => hS.ext0 hw') (fun w hE hS => ?_)
  (apply DR.pure 7 #[true, true, true, true, true, true, true, true]; rfl; kernel_rfl; (apply Y_assign; rfl); rfl)
  refine DR.done (by kernel_rfl) ?_
  refine J.at (C := Cls _ _ _) ?_ hS
  skip
  exact J.ret1 Try.func146 Try.results146 (RV.tm rfl) fun w' hw => ⟨rfl, hw.ext⟩
end Go.Proofs.Ytmkpbbdocndfbaa
/- Sorting messages in memory. -/
namespace Go.Proofs.Ytmkpbbdocndfbaa
open Go.RowKit Go.Proofs
attribute [local irreducible] Yl JL J G GL GA GQ DR

/-- A message's cells, of its words' slice and itself. -/
def mch (p : Value × Msg) : List Value := msgC p.1 p.2
def mkey (p : Value × Msg) : Int := p.2.lane
def MRow (w : World) (v : Value) (ts : List (Value × Msg)) : Prop := Row w 33 5 v (ts.map mch)
def Ones (ts : List (Value × Msg)) : Prop := ∀ p ∈ ts, p.1.oneCell' = true
theorem mch_len (p : Value × Msg) : (mch p).length = 5 := rfl
theorem MRow.ext0 {w w1 : World} {v : Value} {ts : List (Value × Msg)} (h : MRow w v ts) (he : Ext No w w1) : MRow w1 v ts := Row.ext0 h he
theorem MRow.eq {w : World} {v : Value} {ts ts' : List (Value × Msg)} (h : MRow w v ts) (he : ts = ts') : MRow w v ts' := he ▸ h
theorem MRow.ad {w : World} {A : Option Addr} {m c : Nat} {ts : List (Value × Msg)} (h : MRow w (.slice A m c) ts) (hn : 0 < ts.length) : ∃ g, A = some ⟨g, 0, none⟩ := by
  obtain ⟨g, cap, cur, hv, _⟩ := Row.block h (by simpa using hn)
  cases hv; exact ⟨g, rfl⟩
theorem MRow.lds {w : World} {ad : Addr} {m c : Nat} {ts : List (Value × Msg)} (h : MRow w (.slice (some ad) m c) ts) {i q : Nat} {p : Value × Msg} (hi : ts[i]? = some p) (hq : q = i * 5) : Foot (Lds Try.prog 33 (ad.add q) (.agg (msgC p.1 p.2).toArray)) w (fun k => k = ad.block) := by
  subst hq
  have hR : Rd 5 (fun _ _ (_ : Unit) => True) w (fun k => k = ad.block) (.slice (some ad) m c) (ts.map fun p => (mch p, ())) :=
    ⟨((Row.foot h |>.mono fun k _ hk => by simp [Value.ownBlock] at hk; exact hk.symm).imp fun w hw => by have := hw.rrow; simpa [List.map_map, Function.comp_def] using this), fun z hz => Foot.pure fun w => trivial⟩
  exact hR.lds (z := (mch p, ())) (by simp [hi])
theorem MRow.set {w : World} {ad : Addr} {m c : Nat} {ts : List (Value × Msg)} (h : MRow w (.slice (some ad) m c) ts) {i q : Nat} {p : Value × Msg} (hi : i < ts.length) (hp : p.1.oneCell' = true) (hq : q = i * 5) :
    ∃ w', (storeVar 33 (ad.add q) (.agg (msgC p.1 p.2).toArray)).run Try.prog w = .ok () w' ∧ (MRow w' (.slice (some ad) m c) (ts.set i p) ∧ Ext (fun k => k = ad.block) w w') := by
  subst hq
  obtain ⟨w', h1, h2, h3⟩ := Row.store (P := Try.prog) (t := 33) h rfl (i := i) (by simpa using hi) (x := .agg (msgC p.1 p.2).toArray) (l := mch p) rfl rfl (msgC_one hp)
  exact ⟨w', h1, by unfold MRow; rw [List.map_set]; exact h2, h3⟩
theorem get_mid {τ : Type} (A : List τ) (x : τ) (B : List τ) : (A ++ x :: B)[A.length]? = some x := by simp
theorem swap_mid {τ : Type} (A : List τ) (x y : τ) (B : List τ) {i j : Nat} (hi : i = A.length) (hj : j = A.length + 1) : ((A ++ x :: y :: B).set j x).set i y = A ++ y :: x :: B := by
  subst hi; subst hj
  rw [List.set_append_right _ _ (by omega), List.set_append_right _ _ (by omega)]; simp
theorem swap_mid' {τ : Type} (A : List τ) (x y : τ) (B : List τ) {i j : Nat} (hi : i = A.length) (hj : j = A.length + 1) : ((A ++ x :: y :: B).set i y).set j x = A ++ y :: x :: B := by
  subst hi; subst hj
  rw [List.set_append_right _ _ (by omega), List.set_append_right _ _ (by omega)]; simp
theorem KeyAt.ext {kb : Nat} {w w1 : World} {D : Nat → Prop} (h : KeyAt kb w) (he : Ext D w w1) (hd : ¬ D kb) : KeyAt kb w1 := by
  obtain ⟨kf, hkf, hb⟩ := h
  exact ⟨kf, hkf, (he.block kb hb.lt hd).trans hb⟩
theorem cmpI_neg (a b : Int) : (cmpI a b < 0) ↔ a < b := by unfold cmpI; split <;> (try split) <;> omega

set_option maxHeartbeats 1000000 in
/-- slices.insertionSortCmpFunc: from a to b. -/
theorem insSort_spec {w : World} {kb g m c : Nat} {A S B : List (Value × Msg)} (hrow : MRow w (.slice (some ⟨g, 0, none⟩) m c) (A ++ S ++ B)) (hone : Ones (A ++ S ++ B)) (hk : KeyAt kb w) (hkb : kb ≠ g) {a b : Int} (ha : a = A.length) (hb : b = A.length + S.length) (hn : (A ++ S ++ B).length ≤ 1000000) :
    Calls Try.prog 166 #[.slice (some ⟨g, 0, none⟩) m c, .int .i64 a, .int .i64 b, .func (.func 146) #[] #[.pointer (some ⟨kb, 0, none⟩)]] w
      fun e w' => e = .returned (.tuple #[]) ∧ Ext (fun k => k = g) w w' ∧ MRow w' (.slice (some ⟨g, 0, none⟩) m c) (A ++ St.srt mkey S ++ B) := by
  have hm : m = (A ++ S ++ B).length := by obtain ⟨A', c', hv, _⟩ := Row.slice hrow; cases hv; simp
  refine Calls.of_G4 Try.func166 rfl Try.ntmps166 rfl ?_
  refine J.at (C := Cls w No []) ?_ (Cls.start _ _)
  have hlen : (A ++ S ++ B).length = A.length + S.length + B.length := by simp [Nat.add_assoc]
  repeat (first | (apply JL.y; (first | (apply Y_move; rfl) | (apply Y_assign; rfl) | (apply Y_add; rfl; rfl; omega)); rfl) | refine J.seq ?_ | refine J.region ?_ | refine JL.nil ?_ | refine J.block ?_)
  refine J.intro fun wl hwl => G.loop (Inv := fun mm e wl => ∃ (r : Nat) (i : Int), (r + 1 ≤ S.length ∨ r = 0) ∧ i = a + 1 + r ∧ mm = S.length - r ∧ Ext (fun k => k = g) w wl ∧ MRow wl (.slice (some ⟨g, 0, none⟩) m c) (A ++ St.srt mkey (S.take (r + 1)) ++ S.drop (r + 1) ++ B) ∧ e = [(0, .slice (some ⟨g, 0, none⟩) m c), (1, .int .i64 a), (2, .int .i64 b), (3, .func (.func 146) #[] #[.pointer (some ⟨kb, 0, none⟩)]), (8, .int .i64 i)])
    _ _ ⟨0, _, .inr rfl, by omega, rfl, hwl.ext.no, ?_, rfl⟩ ⟨rfl, rfl, rfl, rfl, rfl, trivial⟩ ?_
  · have h0 := hrow.ext0 hwl.ext
    cases S with
    | nil => exact h0.eq (by simp [St.srt])
    | cons x S => exact h0.eq (by simp [St.srt, St.ins])
  rintro mm e w1 ⟨r, i, hr, rfl, rfl, hE, hR, rfl⟩ ih
  refine J.at (C := Cls w1 No []) ?_ (Cls.start _ _)
  repeat (first | (apply JL.y; (first | (apply Y_move; rfl) | (apply Y_lss; rfl; rfl)); rfl) | refine J.seq ?_ | refine J.region ?_ | refine JL.nil ?_)
  refine J.cond_d rfl (fun hlt => ?_) (fun hlt => ?_)
  case refine_2 =>
    repeat (first | (apply J.exit; rfl))
    exact J.end0 Try.func166 Try.results166 fun w' hw => ⟨rfl, hE.trans hw.ext.no, by
      exact (hR.ext0 hw.ext).eq (by rw [List.take_of_length_le (by omega), List.drop_eq_nil_of_le (by omega), List.append_nil])⟩
  have hr1 : r + 1 < S.length := by omega
  have hx : S[r + 1]? = some S[r + 1] := List.getElem?_eq_getElem hr1
  generalize hxe : S[r + 1] = x at hx
  have hxS : x ∈ S := List.mem_of_getElem? hx
  have hox : x.1.oneCell' = true := hone x (by simp [hxS])
  have hdrop : S.drop (r + 1) = x :: S.drop (r + 2) := by rw [List.drop_eq_getElem_cons hr1, hxe]
  have hsl : (St.srt mkey (S.take (r + 1))).length = r + 1 := by rw [St.srt_len, List.length_take]; omega
  have hsnoc : St.srt mkey (S.take (r + 2)) = St.ins mkey x (St.srt mkey (S.take (r + 1))) := by rw [show r + 2 = (r + 1) + 1 by omega, take_snoc hx, St.srt_snoc]
  repeat (first | (apply JL.y; (first | (apply Y_move; rfl) | (apply Y_assign; rfl)); rfl) | refine J.seq ?_ | refine J.region ?_ | refine JL.nil ?_ | refine J.skip ?_ | refine J.block ?_)
  refine J.intro fun w2 hw2 => G.loop (Inv := fun mm e wl => ∃ (T1 T2 : List (Value × Msg)) (j : Int), St.srt mkey (S.take (r + 1)) = T1 ++ T2 ∧ j = a + T1.length ∧ mm = T1.length ∧ (∀ y ∈ T2, mkey x < mkey y) ∧ Ext (fun k => k = g) w wl ∧ MRow wl (.slice (some ⟨g, 0, none⟩) m c) (A ++ (T1 ++ x :: T2) ++ S.drop (r + 2) ++ B) ∧ e = [(0, .slice (some ⟨g, 0, none⟩) m c), (1, .int .i64 a), (2, .int .i64 b), (3, .func (.func 146) #[] #[.pointer (some ⟨kb, 0, none⟩)]), (8, .int .i64 (a + 1 + r)), (9, .int .i64 j)])
    _ _ ⟨_, [], a + 1 + r, by simp; rfl, by rw [hsl]; omega, rfl, by simp, hE.trans hw2.ext.no, (hR.ext0 hw2.ext).eq (by rw [hdrop]; simp), rfl⟩ ⟨rfl, rfl, rfl, rfl, rfl, rfl, trivial⟩ ?_
  rintro mm e w3 ⟨T1, T2, j, hT, hj, rfl, hT2, hE3, hR3, rfl⟩ ih2
  refine J.at (C := Cls w3 No []) ?_ (Cls.start _ _)
  have hTl : T1.length + T2.length = r + 1 := by rw [← hsl, hT]; simp
  have hSr : (S.drop (r + 2)).length = S.length - (r + 2) := by simp
  rcases List.eq_nil_or_concat T1 with rfl | ⟨T1', y, rfl⟩
  · repeat (first | refine J.seq ?_)
    refine J.draw (S := Cls _ _ _) [] #[false, false, false, false, false, false, false, false, false, false, false, false, false, false, false, false, false] rfl rfl (fun w hw => hw.drew) (fun w hS => ?_)
    (apply DR.pure 0 #[true, false, false, false, false, false, false, false, false, false, false, false, false, false, false, false, false]; rfl; kernel_rfl; (apply Y_move; rfl); rfl)
    (apply DR.pure 1 #[true, true, false, false, false, false, false, false, false, false, false, false, false, false, false, false, false]; rfl; kernel_rfl; (apply Y_move; rfl); rfl)
    (apply DR.take 2 #[true, true, true, false, false, false, false, false, false, false, false, false, false, false, false, false, false]; rfl; kernel_rfl; (apply Y_gtr_f; rfl; rfl; simp at hj; omega); rfl; exact hS)
    (apply DR.pure 3 #[true, true, true, true, false, false, false, false, false, false, false, false, false, false, false, false, false]; rfl; kernel_rfl; (apply Y_move; rfl); rfl)
    (apply DR.not 4 #[true, true, true, true, true, false, false, false, false, false, false, false, false, false, false, false, false]; rfl; rfl; rfl; rfl; rfl; kernel_rfl; rfl)
    (apply DR.not 5 #[true, true, true, true, true, true, false, false, false, false, false, false, false, false, false, false, false]; rfl; rfl; rfl; rfl; rfl; kernel_rfl; rfl)
    (apply DR.not 6 #[true, true, true, true, true, true, true, false, false, false, false, false, false, false, false, false, false]; rfl; rfl; rfl; rfl; rfl; kernel_rfl; rfl)
    (apply DR.not 7 #[true, true, true, true, true, true, true, true, false, false, false, false, false, false, false, false, false]; rfl; rfl; rfl; rfl; rfl; kernel_rfl; rfl)
    (apply DR.not 8 #[true, true, true, true, true, true, true, true, true, false, false, false, false, false, false, false, false]; rfl; rfl; rfl; rfl; rfl; kernel_rfl; rfl)
    (apply DR.not 9 #[true, true, true, true, true, true, true, true, true, true, false, false, false, false, false, false, false]; rfl; rfl; rfl; rfl; rfl; kernel_rfl; rfl)
    (apply DR.not 10 #[true, true, true, true, true, true, true, true, true, true, true, false, false, false, false, false, false]; rfl; rfl; rfl; rfl; rfl; kernel_rfl; rfl)
    (apply DR.not 11 #[true, true, true, true, true, true, true, true, true, true, true, true, false, false, false, false, false]; rfl; rfl; rfl; rfl; rfl; kernel_rfl; rfl)
    (apply DR.not 12 #[true, true, true, true, true, true, true, true, true, true, true, true, true, false, false, false, false]; rfl; rfl; rfl; rfl; rfl; kernel_rfl; rfl)
    (apply DR.not 13 #[true, true, true, true, true, true, true, true, true, true, true, true, true, true, false, false, false]; rfl; rfl; rfl; rfl; rfl; kernel_rfl; rfl)
    (apply DR.not 14 #[true, true, true, true, true, true, true, true, true, true, true, true, true, true, true, false, false]; rfl; rfl; rfl; rfl; rfl; kernel_rfl; rfl)
    (apply DR.not 15 #[true, true, true, true, true, true, true, true, true, true, true, true, true, true, true, true, false]; rfl; rfl; rfl; rfl; rfl; kernel_rfl; rfl)
    (apply DR.pure 16 #[true, true, true, true, true, true, true, true, true, true, true, true, true, true, true, true, true]; rfl; kernel_rfl; (first | (apply Y_pick_t; rfl; rfl) | (apply Y_pick_f; rfl; rfl)); rfl)
    refine DR.done (by kernel_rfl) ?_
    refine J.at (C := Cls _ _ _) ?_ hS
    refine J.cond_f rfl ?_
    repeat (first | (apply JL.y; (first | (apply Y_move; rfl) | (apply Y_assign; rfl) | (apply Y_add; rfl; rfl; omega)); rfl) | refine J.region ?_ | refine JL.nil ?_ | refine J.inBlock ?_ | (apply J.exit; rfl))
    refine J.intro fun w4 hw4 => ih (S.length - (r + 1)) (by omega) _ _ w4 ?_ ⟨r + 1, a + 1 + r + 1, .inl (by omega), by omega, rfl, hE3.trans hw4.ext.no, (hR3.ext0 hw4.ext).eq ?_, rfl⟩
    · exact ⟨rfl, rfl, rfl, rfl, rfl, trivial⟩
    · rw [hsnoc, hT, St.ins_split (A := []) (by simp) (fun z hz => hT2 z (List.mem_of_mem_head? hz))]
  · rw [List.concat_eq_append] at *
    simp only [List.length_append, List.length_cons, List.length_nil] at hj hTl
    have hyS : y ∈ S := by
      have : y ∈ St.srt mkey (S.take (r + 1)) := by rw [hT]; simp
      exact List.mem_of_mem_take (St.srt_mem.1 this)
    have hoy : y.1.oneCell' = true := hone y (by simp [hyS])
    have hE3' : A ++ (T1' ++ [y] ++ x :: T2) ++ S.drop (r + 2) ++ B = (A ++ T1') ++ y :: x :: (T2 ++ S.drop (r + 2) ++ B) := by simp
    rw [hE3'] at hR3
    have hxi : ((A ++ T1') ++ y :: x :: (T2 ++ S.drop (r + 2) ++ B))[A.length + T1'.length + 1]? = some x := by
      rw [List.getElem?_append_right (by rw [List.length_append]; omega)]; simp [show A.length + T1'.length + 1 - (A.length + T1'.length) = 1 by omega]
    have hyi : ((A ++ T1') ++ y :: x :: (T2 ++ S.drop (r + 2) ++ B))[A.length + T1'.length]? = some y := by
      rw [List.getElem?_append_right (by simp)]; simp
    have lx := hR3.lds hxi (q := j.toNat * 5) (by congr 1; omega)
    have ly := hR3.lds hyi (q := (j - 1).toNat * 5) (by congr 1; omega)
    have hk3 : KeyAt kb w3 := hk.ext hE3 hkb
    repeat (first | refine J.seq ?_)
    refine J.draw (S := Cls _ _ _) [] #[false, false, false, false, false, false, false, false, false, false, false, false, false, false, false, false, false] rfl rfl (fun w hw => hw.drew) (fun w hS => ?_)
    (apply DR.pure 0 #[true, false, false, false, false, false, false, false, false, false, false, false, false, false, false, false, false]; rfl; kernel_rfl; (apply Y_move; rfl); rfl)
    (apply DR.pure 1 #[true, true, false, false, false, false, false, false, false, false, false, false, false, false, false, false, false]; rfl; kernel_rfl; (apply Y_move; rfl); rfl)
    (apply DR.take 2 #[true, true, true, false, false, false, false, false, false, false, false, false, false, false, false, false, false]; rfl; kernel_rfl; (apply Y_gtr_t; rfl; rfl; omega); rfl; exact hS)
    (apply DR.pure 3 #[true, true, true, true, false, false, false, false, false, false, false, false, false, false, false, false, false]; rfl; kernel_rfl; (apply Y_move; rfl); rfl)
    (apply DR.pureG 4 #[true, true, true, true, true, false, false, false, false, false, false, false, false, false, false, false, false]; rfl; rfl; rfl; rfl; kernel_rfl; (apply Y_move; rfl); rfl)
    (apply DR.pureG 5 #[true, true, true, true, true, true, false, false, false, false, false, false, false, false, false, false, false]; rfl; rfl; rfl; rfl; kernel_rfl; (apply Y_move; rfl); rfl)
    (apply DR.pureG 6 #[true, true, true, true, true, true, true, false, false, false, false, false, false, false, false, false, false]; rfl; rfl; rfl; rfl; kernel_rfl; (apply Y_move; rfl); rfl)
    (apply DR.pureG 7 #[true, true, true, true, true, true, true, true, false, false, false, false, false, false, false, false, false]; rfl; rfl; rfl; rfl; kernel_rfl; (apply Y_indexAddr; rfl; rfl; omega); rfl)
    (apply DR.takeG 8 #[true, true, true, true, true, true, true, true, true, false, false, false, false, false, false, false, false]; rfl; rfl; rfl; rfl; kernel_rfl; exact Y_loadP rfl fun w hw => lx.at_ hw.ext fun _ _ _ h => h; rfl; exact hS)
    (apply DR.pureG 9 #[true, true, true, true, true, true, true, true, true, true, false, false, false, false, false, false, false]; rfl; rfl; rfl; rfl; kernel_rfl; (apply Y_move; rfl); rfl)
    (apply DR.pureG 10 #[true, true, true, true, true, true, true, true, true, true, true, false, false, false, false, false, false]; rfl; rfl; rfl; rfl; kernel_rfl; (apply Y_move; rfl); rfl)
    (apply DR.pureG 11 #[true, true, true, true, true, true, true, true, true, true, true, true, false, false, false, false, false]; rfl; rfl; rfl; rfl; kernel_rfl; (apply Y_sub; rfl; rfl; omega); rfl)
    (apply DR.pureG 12 #[true, true, true, true, true, true, true, true, true, true, true, true, true, false, false, false, false]; rfl; rfl; rfl; rfl; kernel_rfl; (apply Y_indexAddr; rfl; rfl; omega); rfl)
    (apply DR.takeG 13 #[true, true, true, true, true, true, true, true, true, true, true, true, true, true, false, false, false]; rfl; rfl; rfl; rfl; kernel_rfl; exact Y_loadP rfl fun w hw => ly.at_ hw.ext fun _ _ _ h => h; rfl; exact hS)
    apply DR.callqCG (cap := [.pointer (some ⟨kb, 0, none⟩)]) 14 #[true, true, true, true, true, true, true, true, true, true, true, true, true, true, true, false, false]; rfl; rfl; rfl; rfl; kernel_rfl; rfl; rfl; exact inferInstance; rfl; rfl; exact cmp_spec (hk3.ext hS.ext id) x y hox hoy; (intro w' hw'; exact hS.ext0 hw'); intro w hE hS
    (apply DR.pureG 15 #[true, true, true, true, true, true, true, true, true, true, true, true, true, true, true, true, false]; rfl; rfl; rfl; rfl; kernel_rfl; (apply Y_lss; rfl; rfl); rfl)
    (apply DR.pure 16 #[true, true, true, true, true, true, true, true, true, true, true, true, true, true, true, true, true]; rfl; kernel_rfl; (first | (apply Y_pick_t; rfl; rfl) | (apply Y_pick_f; rfl; rfl)); rfl)
    refine DR.done (by kernel_rfl) ?_
    refine J.at (C := Cls _ _ _) ?_ hS
    refine J.cond_d rfl (fun hc => ?_) (fun hc => ?_)
    case refine_2 =>
      have hge : ¬ mkey x < mkey y := fun h => hc ((cmpI_neg _ _).2 h)
      have hsrt := St.srt_srt (key := mkey) (S.take (r + 1))
      rw [hT] at hsrt
      have hle : ∀ z ∈ T1' ++ [y], mkey z ≤ mkey x := fun z hz => by
        have h1 := (St.Srt.parts (St.Srt.parts hsrt).1).2.2
        rcases List.mem_append.1 hz with hz | hz
        · have := h1 z hz y (by simp); omega
        · simp at hz; subst hz; omega
      repeat (first | (apply JL.y; (first | (apply Y_move; rfl) | (apply Y_assign; rfl) | (apply Y_add; rfl; rfl; omega)); rfl) | refine J.region ?_ | refine JL.nil ?_ | refine J.inBlock ?_ | (apply J.exit; rfl))
      refine J.intro fun w4 hw4 => ih (S.length - (r + 1)) (by omega) _ _ w4 ?_ ⟨r + 1, a + 1 + r + 1, .inl (by omega), by omega, rfl, hE3.trans hw4.ext.no, (hR3.ext0 hw4.ext).eq ?_, rfl⟩
      · exact ⟨rfl, rfl, rfl, rfl, rfl, trivial⟩
      · rw [hsnoc, hT, St.ins_split hle (fun z hz => hT2 z (List.mem_of_mem_head? hz))]; simp
    have hlt' : mkey x < mkey y := (cmpI_neg _ _).1 hc
    repeat (first | refine J.seq ?_ | refine J.skip ?_ | refine J.block ?_)
    refine J.draw (S := Cls _ _ _) [15, 17] #[false, false, false, false, false, false, false, false, false, false, false, false, false, false, false, false, false, false] rfl rfl (fun w hw => hw.drew) (fun w hS => ?_)
    (apply DR.pure 0 #[true, false, false, false, false, false, false, false, false, false, false, false, false, false, false, false, false, false]; rfl; kernel_rfl; (apply Y_move; rfl); rfl)
    (apply DR.pure 1 #[true, true, false, false, false, false, false, false, false, false, false, false, false, false, false, false, false, false]; rfl; kernel_rfl; (apply Y_move; rfl); rfl)
    (apply DR.pure 2 #[true, true, true, false, false, false, false, false, false, false, false, false, false, false, false, false, false, false]; rfl; kernel_rfl; (apply Y_move; rfl); rfl)
    (apply DR.pure 3 #[true, true, true, true, false, false, false, false, false, false, false, false, false, false, false, false, false, false]; rfl; kernel_rfl; (apply Y_move; rfl); rfl)
    (apply DR.pure 4 #[true, true, true, true, true, false, false, false, false, false, false, false, false, false, false, false, false, false]; rfl; kernel_rfl; (apply Y_sub; rfl; rfl; omega); rfl)
    (apply DR.pure 5 #[true, true, true, true, true, true, false, false, false, false, false, false, false, false, false, false, false, false]; rfl; kernel_rfl; (apply Y_move; rfl); rfl)
    (apply DR.pure 6 #[true, true, true, true, true, true, true, false, false, false, false, false, false, false, false, false, false, false]; rfl; kernel_rfl; (apply Y_move; rfl); rfl)
    (apply DR.pure 7 #[true, true, true, true, true, true, true, true, false, false, false, false, false, false, false, false, false, false]; rfl; kernel_rfl; (apply Y_sub; rfl; rfl; omega); rfl)
    (apply DR.pure 8 #[true, true, true, true, true, true, true, true, true, false, false, false, false, false, false, false, false, false]; rfl; kernel_rfl; (apply Y_indexAddr; rfl; rfl; omega); rfl)
    (apply DR.take 9 #[true, true, true, true, true, true, true, true, true, true, false, false, false, false, false, false, false, false]; rfl; kernel_rfl; exact Y_loadP rfl fun w hw => ly.at_ hw.ext fun _ _ _ h => h; rfl; exact hS)
    (apply DR.pure 10 #[true, true, true, true, true, true, true, true, true, true, true, false, false, false, false, false, false, false]; rfl; kernel_rfl; (apply Y_move; rfl); rfl)
    (apply DR.pure 11 #[true, true, true, true, true, true, true, true, true, true, true, true, false, false, false, false, false, false]; rfl; kernel_rfl; (apply Y_move; rfl); rfl)
    (apply DR.pure 12 #[true, true, true, true, true, true, true, true, true, true, true, true, true, false, false, false, false, false]; rfl; kernel_rfl; (apply Y_indexAddr; rfl; rfl; omega); rfl)
    (apply DR.take 13 #[true, true, true, true, true, true, true, true, true, true, true, true, true, true, false, false, false, false]; rfl; kernel_rfl; exact Y_loadP rfl fun w hw => lx.at_ hw.ext fun _ _ _ h => h; rfl; exact hS)
    (apply DR.pure 14 #[true, true, true, true, true, true, true, true, true, true, true, true, true, true, true, false, false, false]; rfl; kernel_rfl; (apply Y_indexAddr; rfl; rfl; omega); rfl)
    refine DR.rowStore 15 #[true, true, true, true, true, true, true, true, true, true, true, true, true, true, true, true, false, false] rfl (by kernel_rfl) rfl _ rfl rfl (MRow.set (hR3.ext0 hS.ext) (i := A.length + T1'.length + 1) (by simp; omega) hoy (by congr 1; omega)) (fun w5 ⟨hR5, hE5⟩ => ?_)
    (apply DR.pure 16 #[true, true, true, true, true, true, true, true, true, true, true, true, true, true, true, true, true, false]; rfl; kernel_rfl; (apply Y_indexAddr; rfl; rfl; omega); rfl)
    refine DR.rowStore 17 #[true, true, true, true, true, true, true, true, true, true, true, true, true, true, true, true, true, true] rfl (by kernel_rfl) rfl _ rfl rfl (MRow.set hR5 (i := A.length + T1'.length) (by simp) hox (by congr 1; omega)) (fun w6 ⟨hR6, hE6⟩ => ?_)
    refine DR.done (by kernel_rfl) ?_
    refine J.at (C := Cls w6 No []) ?_ (Cls.start _ _)
    have hE36 : Ext (fun k => k = g) w3 w6 := (hS.ext.no.trans hE5).trans hE6
    repeat (first | (apply JL.y; (first | (apply Y_move; rfl) | (apply Y_assign; rfl) | (apply Y_sub; rfl; rfl; omega)); rfl) | refine J.region ?_ | refine JL.nil ?_ | refine J.inBlock ?_)
    refine J.intro fun w7 hw7 => ih2 T1'.length (by simp) _ _ w7 ?_ ⟨T1', y :: T2, j - 1, by simp [hT], by omega, rfl, ?_, (hE3.trans hE36).trans hw7.ext.no, (hR6.ext0 hw7.ext).eq ?_, rfl⟩
    · exact ⟨rfl, rfl, rfl, rfl, rfl, rfl, trivial⟩
    · intro z hz
      rcases List.mem_cons.1 hz with rfl | hz
      · exact hlt'
      · exact hT2 z hz
    · rw [swap_mid _ _ _ _ (by simp) (by simp)]; simp
end Go.Proofs.Ytmkpbbdocndfbaa
/- Swapping and rotating ranges of messages. -/
namespace Go.Proofs.Ytmkpbbdocndfbaa
open Go.RowKit Go.Proofs
attribute [local irreducible] Yl JL J G GL GA GQ DR

theorem swap_far {τ : Type} (A : List τ) (x : τ) (M : List τ) (y : τ) (B : List τ) {i j : Nat} (hi : i = A.length) (hj : j = A.length + 1 + M.length) : ((A ++ x :: (M ++ y :: B)).set i y).set j x = A ++ y :: (M ++ x :: B) := by
  subst hi; subst hj
  rw [List.set_append_right _ _ (by omega), List.set_append_right _ _ (by omega)]
  simp only [Nat.sub_self, List.set_cons_zero]
  rw [show A.length + 1 + M.length - A.length = M.length + 1 by omega, List.set_cons_succ, List.set_append_right _ _ (by omega)]; simp
theorem swap_far' {τ : Type} (A : List τ) (x : τ) (M : List τ) (y : τ) (B : List τ) {i j : Nat} (hi : i = A.length) (hj : j = A.length + 1 + M.length) : ((A ++ x :: (M ++ y :: B)).set j x).set i y = A ++ y :: (M ++ x :: B) := by
  rw [List.set_comm _ _ (by omega)]; exact swap_far A x M y B hi hj
theorem far_1 {τ : Type} (A : List τ) (x : τ) (B : List τ) {i : Nat} (hi : i = A.length) : (A ++ x :: B)[i]? = some x := by subst hi; simp
theorem far_2 {τ : Type} (A : List τ) (x : τ) (M : List τ) (y : τ) (B : List τ) {i : Nat} (hi : i = A.length + 1 + M.length) : (A ++ x :: (M ++ y :: B))[i]? = some y := by
  subst hi
  rw [List.getElem?_append_right (by omega), show A.length + 1 + M.length - A.length = M.length + 1 by omega, List.getElem?_cons_succ, List.getElem?_append_right (by omega)]; simp

set_option maxHeartbeats 1000000 in
/-- slices.swapRangeCmpFunc. -/
theorem swapRange_spec {w : World} {g m c : Nat} {P U V W Q : List (Value × Msg)} {fv : Value} (hrow : MRow w (.slice (some ⟨g, 0, none⟩) m c) (P ++ U ++ V ++ W ++ Q)) (hone : Ones (P ++ U ++ V ++ W ++ Q)) (hUW : U.length = W.length) {a b s : Int} (ha : a = P.length) (hb : b = P.length + U.length + V.length) (hs : s = U.length) (hn : (P ++ U ++ V ++ W ++ Q).length ≤ 1000000) :
    Calls Try.prog 185 #[.slice (some ⟨g, 0, none⟩) m c, .int .i64 a, .int .i64 b, .int .i64 s, fv] w
      fun e w' => e = .returned (.tuple #[]) ∧ Ext (fun k => k = g) w w' ∧ MRow w' (.slice (some ⟨g, 0, none⟩) m c) (P ++ W ++ V ++ U ++ Q) := by
  have hm : m = (P ++ U ++ V ++ W ++ Q).length := by obtain ⟨A', c', hv, _⟩ := Row.slice hrow; cases hv; simp
  have hlen : (P ++ U ++ V ++ W ++ Q).length = P.length + U.length + V.length + W.length + Q.length := by simp [Nat.add_assoc]
  rw [hlen] at hm hn
  clear hlen
  refine Calls.of_G5 Try.func185 rfl Try.ntmps185 rfl ?_
  refine J.at (C := Cls w No []) ?_ (Cls.start _ _)
  repeat (first | (apply JL.y; (apply Y_assign; rfl); rfl) | refine J.seq ?_ | refine J.region ?_ | refine JL.nil ?_ | refine J.block ?_)
  refine J.intro fun wl hwl => G.loop (Inv := fun mm e wl => ∃ (U1 U2 W1 W2 : List (Value × Msg)) (i : Int), U = U1 ++ U2 ∧ W = W1 ++ W2 ∧ U1.length = W1.length ∧ i = U1.length ∧ mm = U2.length ∧ Ext (fun k => k = g) w wl ∧ MRow wl (.slice (some ⟨g, 0, none⟩) m c) ((P ++ W1) ++ (U2 ++ V ++ U1) ++ W2 ++ Q) ∧ e = [(0, .slice (some ⟨g, 0, none⟩) m c), (1, .int .i64 a), (2, .int .i64 b), (3, .int .i64 s), (10, .int .i64 i)])
    _ _ ⟨[], U, [], W, _, rfl, rfl, rfl, rfl, rfl, hwl.ext.no, (hrow.ext0 hwl.ext).eq (by simp), rfl⟩ ⟨rfl, rfl, rfl, rfl, rfl, trivial⟩ ?_
  rintro mm e w1 ⟨U1, U2, W1, W2, i, rfl, rfl, hl, rfl, rfl, hE, hR, rfl⟩ ih
  simp only [List.length_append] at hUW hb hs hm hn
  refine J.at (C := Cls w1 No []) ?_ (Cls.start _ _)
  repeat (first | (apply JL.y; (first | (apply Y_move; rfl) | (apply Y_lss; rfl; rfl)); rfl) | refine J.seq ?_ | refine J.region ?_ | refine JL.nil ?_)
  refine J.cond_d rfl (fun hlt => ?_) (fun hlt => ?_)
  case refine_2 =>
    have h1 : U2 = [] := List.eq_nil_of_length_eq_zero (by omega)
    have h2 : W2 = [] := List.eq_nil_of_length_eq_zero (by omega)
    subst h1; subst h2
    repeat (first | (apply J.exit; rfl))
    exact J.end0 Try.func185 Try.results185 fun w' hw => ⟨rfl, hE.trans hw.ext.no, (hR.ext0 hw.ext).eq (by simp)⟩
  cases U2 with
  | nil => simp at hs; omega
  | cons u U2 =>
  cases W2 with
  | nil => simp at hUW; omega
  | cons x W2 =>
  have hou : u.1.oneCell' = true := hone u (by simp)
  have hox : x.1.oneCell' = true := hone x (by simp)
  have hR1 := hR.eq (ts' := (P ++ W1) ++ u :: ((U2 ++ V ++ U1) ++ x :: (W2 ++ Q))) (by simp)
  simp only [List.length_cons] at hUW hb hs hm hn
  have hA : (P ++ W1).length = P.length + W1.length := by simp
  have hB : (U2 ++ V ++ U1).length = U2.length + V.length + U1.length := by simp [Nat.add_assoc]
  have lu := hR1.lds (far_1 (P ++ W1) u ((U2 ++ V ++ U1) ++ x :: (W2 ++ Q)) rfl) (q := (a + U1.length).toNat * 5) (by omega)
  have lx := hR1.lds (far_2 (P ++ W1) u (U2 ++ V ++ U1) x (W2 ++ Q) rfl) (q := (b + U1.length).toNat * 5) (by omega)
  repeat (first | refine J.seq ?_ | refine J.skip ?_ | refine J.block ?_)
  refine J.draw (S := Cls _ _ _) [21, 23] #[false, false, false, false, false, false, false, false, false, false, false, false, false, false, false, false, false, false, false, false, false, false, false, false] rfl rfl (fun w hw => hw.drew) (fun w hS => ?_)
  (apply DR.pure 0 #[true, false, false, false, false, false, false, false, false, false, false, false, false, false, false, false, false, false, false, false, false, false, false, false]; rfl; kernel_rfl; (apply Y_move; rfl); rfl)
  (apply DR.pure 1 #[true, true, false, false, false, false, false, false, false, false, false, false, false, false, false, false, false, false, false, false, false, false, false, false]; rfl; kernel_rfl; (apply Y_move; rfl); rfl)
  (apply DR.pure 2 #[true, true, true, false, false, false, false, false, false, false, false, false, false, false, false, false, false, false, false, false, false, false, false, false]; rfl; kernel_rfl; (apply Y_move; rfl); rfl)
  (apply DR.pure 3 #[true, true, true, true, false, false, false, false, false, false, false, false, false, false, false, false, false, false, false, false, false, false, false, false]; rfl; kernel_rfl; (apply Y_add; rfl; rfl; omega); rfl)
  (apply DR.pure 4 #[true, true, true, true, true, false, false, false, false, false, false, false, false, false, false, false, false, false, false, false, false, false, false, false]; rfl; kernel_rfl; (apply Y_move; rfl); rfl)
  (apply DR.pure 5 #[true, true, true, true, true, true, false, false, false, false, false, false, false, false, false, false, false, false, false, false, false, false, false, false]; rfl; kernel_rfl; (apply Y_move; rfl); rfl)
  (apply DR.pure 6 #[true, true, true, true, true, true, true, false, false, false, false, false, false, false, false, false, false, false, false, false, false, false, false, false]; rfl; kernel_rfl; (apply Y_move; rfl); rfl)
  (apply DR.pure 7 #[true, true, true, true, true, true, true, true, false, false, false, false, false, false, false, false, false, false, false, false, false, false, false, false]; rfl; kernel_rfl; (apply Y_add; rfl; rfl; omega); rfl)
  (apply DR.pure 8 #[true, true, true, true, true, true, true, true, true, false, false, false, false, false, false, false, false, false, false, false, false, false, false, false]; rfl; kernel_rfl; (apply Y_move; rfl); rfl)
  (apply DR.pure 9 #[true, true, true, true, true, true, true, true, true, true, false, false, false, false, false, false, false, false, false, false, false, false, false, false]; rfl; kernel_rfl; (apply Y_move; rfl); rfl)
  (apply DR.pure 10 #[true, true, true, true, true, true, true, true, true, true, true, false, false, false, false, false, false, false, false, false, false, false, false, false]; rfl; kernel_rfl; (apply Y_move; rfl); rfl)
  (apply DR.pure 11 #[true, true, true, true, true, true, true, true, true, true, true, true, false, false, false, false, false, false, false, false, false, false, false, false]; rfl; kernel_rfl; (apply Y_add; rfl; rfl; omega); rfl)
  (apply DR.pure 12 #[true, true, true, true, true, true, true, true, true, true, true, true, true, false, false, false, false, false, false, false, false, false, false, false]; rfl; kernel_rfl; (apply Y_indexAddr; rfl; rfl; omega); rfl)
  (apply DR.take 13 #[true, true, true, true, true, true, true, true, true, true, true, true, true, true, false, false, false, false, false, false, false, false, false, false]; rfl; kernel_rfl; exact Y_loadP rfl fun w hw => lx.at_ hw.ext fun _ _ _ h => h; rfl; exact hS)
  (apply DR.pure 14 #[true, true, true, true, true, true, true, true, true, true, true, true, true, true, true, false, false, false, false, false, false, false, false, false]; rfl; kernel_rfl; (apply Y_move; rfl); rfl)
  (apply DR.pure 15 #[true, true, true, true, true, true, true, true, true, true, true, true, true, true, true, true, false, false, false, false, false, false, false, false]; rfl; kernel_rfl; (apply Y_move; rfl); rfl)
  (apply DR.pure 16 #[true, true, true, true, true, true, true, true, true, true, true, true, true, true, true, true, true, false, false, false, false, false, false, false]; rfl; kernel_rfl; (apply Y_move; rfl); rfl)
  (apply DR.pure 17 #[true, true, true, true, true, true, true, true, true, true, true, true, true, true, true, true, true, true, false, false, false, false, false, false]; rfl; kernel_rfl; (apply Y_add; rfl; rfl; omega); rfl)
  (apply DR.pure 18 #[true, true, true, true, true, true, true, true, true, true, true, true, true, true, true, true, true, true, true, false, false, false, false, false]; rfl; kernel_rfl; (apply Y_indexAddr; rfl; rfl; omega); rfl)
  (apply DR.take 19 #[true, true, true, true, true, true, true, true, true, true, true, true, true, true, true, true, true, true, true, true, false, false, false, false]; rfl; kernel_rfl; exact Y_loadP rfl fun w hw => lu.at_ hw.ext fun _ _ _ h => h; rfl; exact hS)
  (apply DR.pure 20 #[true, true, true, true, true, true, true, true, true, true, true, true, true, true, true, true, true, true, true, true, true, false, false, false]; rfl; kernel_rfl; (apply Y_indexAddr; rfl; rfl; omega); rfl)
  refine DR.rowStore 21 #[true, true, true, true, true, true, true, true, true, true, true, true, true, true, true, true, true, true, true, true, true, true, false, false] rfl (by kernel_rfl) rfl _ rfl rfl (MRow.set (hR1.ext0 hS.ext) (i := (P ++ W1).length) (by simp) hox (by omega)) (fun w5 ⟨hR5, hE5⟩ => ?_)
  (apply DR.pure 22 #[true, true, true, true, true, true, true, true, true, true, true, true, true, true, true, true, true, true, true, true, true, true, true, false]; rfl; kernel_rfl; (apply Y_indexAddr; rfl; rfl; omega); rfl)
  refine DR.rowStore 23 #[true, true, true, true, true, true, true, true, true, true, true, true, true, true, true, true, true, true, true, true, true, true, true, true] rfl (by kernel_rfl) rfl _ rfl rfl (MRow.set hR5 (i := (P ++ W1).length + 1 + (U2 ++ V ++ U1).length) (by simp; omega) hou (by omega)) (fun w6 ⟨hR6, hE6⟩ => ?_)
  refine DR.done (by kernel_rfl) ?_
  refine J.at (C := Cls w6 No []) ?_ (Cls.start _ _)
  have hE36 : Ext (fun k => k = g) w1 w6 := (hS.ext.no.trans hE5).trans hE6
  repeat (first | (apply JL.y; (first | (apply Y_move; rfl) | (apply Y_assign; rfl) | (apply Y_add; rfl; rfl; omega)); rfl) | refine J.region ?_ | refine JL.nil ?_ | refine J.inBlock ?_)
  refine J.intro fun w7 hw7 => ih U2.length (by simp) _ _ w7 ?_ ⟨U1 ++ [u], U2, W1 ++ [x], W2, U1.length + 1, by simp, by simp, by simp [hl], by simp, rfl, (hE.trans hE36).trans hw7.ext.no, (hR6.ext0 hw7.ext).eq ?_, rfl⟩
  · exact ⟨rfl, rfl, rfl, rfl, rfl, trivial⟩
  · rw [swap_far _ _ _ _ _ rfl rfl]; simp

set_option maxHeartbeats 1000000 in
/-- slices.rotateCmpFunc. -/
theorem rotate_spec {w : World} {g m c : Nat} {P X Y Q : List (Value × Msg)} {fv : Value} (hrow : MRow w (.slice (some ⟨g, 0, none⟩) m c) (P ++ X ++ Y ++ Q)) (hone : Ones (P ++ X ++ Y ++ Q)) (hX : 0 < X.length) (hY : 0 < Y.length) {a b d : Int} (ha : a = P.length) (hd : d = P.length + X.length) (hb : b = P.length + X.length + Y.length) (hn : (P ++ X ++ Y ++ Q).length ≤ 1000000) :
    Calls Try.prog 179 #[.slice (some ⟨g, 0, none⟩) m c, .int .i64 a, .int .i64 d, .int .i64 b, fv] w
      fun e w' => e = .returned (.tuple #[]) ∧ Ext (fun k => k = g) w w' ∧ MRow w' (.slice (some ⟨g, 0, none⟩) m c) (P ++ Y ++ X ++ Q) := by
  have hlen : (P ++ X ++ Y ++ Q).length = P.length + X.length + Y.length + Q.length := by simp [Nat.add_assoc]
  refine Calls.of_G5 Try.func179 rfl Try.ntmps179 rfl ?_
  refine J.at (C := Cls w No []) ?_ (Cls.start _ _)
  repeat (first | (apply JL.y; (first | (apply Y_move; rfl) | (apply Y_assign; rfl) | (apply Y_sub; rfl; rfl; omega)); rfl) | refine J.seq ?_ | refine J.region ?_ | refine JL.nil ?_ | refine J.block ?_)
  refine J.intro fun wl hwl => G.loop (Inv := fun mm e wl => ∃ (P1 L R Q1 : List (Value × Msg)) (i j : Int), P1 ++ R ++ L ++ Q1 = P ++ Y ++ X ++ Q ∧ d = P1.length + L.length ∧ 0 < L.length ∧ 0 < R.length ∧ i = L.length ∧ j = R.length ∧ mm = L.length + R.length ∧ Ext (fun k => k = g) w wl ∧ MRow wl (.slice (some ⟨g, 0, none⟩) m c) (P1 ++ L ++ R ++ Q1) ∧ e = [(0, .slice (some ⟨g, 0, none⟩) m c), (2, .int .i64 d), (4, fv), (10, .int .i64 i), (11, .int .i64 j)])
    _ _ ⟨P, X, Y, Q, _, _, rfl, hd, hX, hY, by omega, by omega, rfl, hwl.ext.no, hrow.ext0 hwl.ext, rfl⟩ ⟨rfl, rfl, rfl, rfl, rfl, trivial⟩ ?_
  rintro mm e w1 ⟨P1, L, R, Q1, i, j, hPQ, hd1, hL, hR, rfl, rfl, rfl, hE, hRow, rfl⟩ ih
  have hlen1 : P1.length + L.length + R.length + Q1.length = P.length + X.length + Y.length + Q.length := by
    have := congrArg List.length hPQ; simp at this; omega
  have hone1 : Ones (P1 ++ L ++ R ++ Q1) := fun p hp => hone p (by
    have h : p ∈ P1 ++ R ++ L ++ Q1 := by grind
    rw [hPQ] at h
    grind)
  refine J.at (C := Cls w1 No []) ?_ (Cls.start _ _)
  repeat (first | (apply JL.y; (first | (apply Y_move; rfl) | (apply Y_neq; rfl; rfl)); rfl) | refine J.seq ?_ | refine J.region ?_ | refine JL.nil ?_)
  refine J.cond_d rfl (fun hlt => ?_) (fun hlt => ?_)
  case refine_2 =>
    have heq : L.length = R.length := by have := Classical.not_not.1 hlt; omega
    repeat (first | (apply JL.y; (first | (apply Y_move; rfl) | (apply Y_sub; rfl; rfl; omega)); rfl) | refine J.region ?_ | (apply J.exit; rfl))
    refine JL.call (fun w2 v w3 => v = .tuple #[] ∧ Ext (fun k => k = g) w2 w3 ∧ MRow w3 (.slice (some ⟨g, 0, none⟩) m c) (P1 ++ R ++ [] ++ L ++ Q1)) rfl rfl (fun w2 hw2 => (swapRange_spec (P := P1) (U := L) (V := []) (W := R) (Q := Q1) ((hRow.ext0 hw2.ext).eq (by simp)) (by simpa using hone1) heq (by omega) (by simp; omega) (by omega) (by simp; omega)).mono fun e w' h => ⟨_, h.1, rfl, h.2⟩) fun w2 r w3 hw2 ⟨hr, hE3, hR3⟩ => ?_
    subst hr
    refine GL.of_JL (C := Cls w3 No []) (Cls.start _ _) ?_
    repeat (first | refine JL.nil ?_)
    exact J.end0 Try.func179 Try.results179 fun w' hw => ⟨rfl, ((hE.trans hw2.ext.no).trans hE3).trans hw.ext.no, (hR3.ext0 hw.ext).eq (by rw [← hPQ]; simp)⟩
  repeat (first | (apply JL.y; (first | (apply Y_move; rfl) | (apply Y_gtr; rfl; rfl)); rfl) | refine J.seq ?_ | refine J.region ?_ | refine JL.nil ?_ | refine J.skip ?_ | refine J.block ?_)
  refine J.cond_d rfl (fun hgt => ?_) (fun hgt => ?_)
  · obtain ⟨L1, L2, rfl, hl1⟩ : ∃ L1 L2, L = L1 ++ L2 ∧ L1.length = R.length := ⟨L.take R.length, L.drop R.length, by simp, by simp; omega⟩
    have hLL : (L1 ++ L2).length = L1.length + L2.length := by simp
    repeat (first | (apply JL.y; (first | (apply Y_move; rfl) | (apply Y_sub; rfl; rfl; omega)); rfl) | refine J.seq ?_ | refine J.region ?_)
    refine JL.call (fun w2 v w3 => v = .tuple #[] ∧ Ext (fun k => k = g) w2 w3 ∧ MRow w3 (.slice (some ⟨g, 0, none⟩) m c) (P1 ++ R ++ L2 ++ L1 ++ Q1)) rfl rfl (fun w2 hw2 => (swapRange_spec (P := P1) (U := L1) (V := L2) (W := R) (Q := Q1) ((hRow.ext0 hw2.ext).eq (by simp)) (by simpa using hone1) hl1 (by simp; omega) (by omega) (by omega) (by simp; omega)).mono fun e w' h => ⟨_, h.1, rfl, h.2⟩) fun w2 r w3 hw2 ⟨hr, hE3, hR3⟩ => ?_
    subst hr
    refine GL.of_JL (C := Cls w3 No []) (Cls.start _ _) ?_
    repeat (first | (apply JL.y; (first | (apply Y_move; rfl) | (apply Y_assign; rfl) | (apply Y_sub; rfl; rfl; omega)); rfl) | refine J.region ?_ | refine JL.nil ?_ | refine J.inBlock ?_)
    refine J.intro fun w7 hw7 => ih (L2.length + L1.length) (by simp; omega) _ _ w7 ?_ ⟨P1 ++ R, L2, L1, Q1, ((L1 ++ L2).length : Int) - R.length, R.length, by rw [← hPQ]; simp, by simp; omega, by omega, by omega, by simp; omega, by omega, rfl, ((hE.trans hw2.ext.no).trans hE3).trans hw7.ext.no, (hR3.ext0 hw7.ext), rfl⟩
    exact ⟨rfl, rfl, rfl, rfl, rfl, trivial⟩
  · obtain ⟨R1, R2, rfl, hl1⟩ : ∃ R1 R2, R = R1 ++ R2 ∧ R2.length = L.length := ⟨R.take (R.length - L.length), R.drop (R.length - L.length), by simp, by simp; omega⟩
    have hRR : (R1 ++ R2).length = R1.length + R2.length := by simp
    repeat (first | (apply JL.y; (first | (apply Y_move; rfl) | (apply Y_add; rfl; rfl; omega) | (apply Y_sub; rfl; rfl; omega)); rfl) | refine J.seq ?_ | refine J.region ?_)
    refine JL.call (fun w2 v w3 => v = .tuple #[] ∧ Ext (fun k => k = g) w2 w3 ∧ MRow w3 (.slice (some ⟨g, 0, none⟩) m c) (P1 ++ R2 ++ R1 ++ L ++ Q1)) rfl rfl (fun w2 hw2 => (swapRange_spec (P := P1) (U := L) (V := R1) (W := R2) (Q := Q1) ((hRow.ext0 hw2.ext).eq (by simp)) (by simpa using hone1) hl1.symm (by omega) (by simp; omega) (by omega) (by simp; omega)).mono fun e w' h => ⟨_, h.1, rfl, h.2⟩) fun w2 r w3 hw2 ⟨hr, hE3, hR3⟩ => ?_
    subst hr
    refine GL.of_JL (C := Cls w3 No []) (Cls.start _ _) ?_
    repeat (first | (apply JL.y; (first | (apply Y_move; rfl) | (apply Y_assign; rfl) | (apply Y_sub; rfl; rfl; omega)); rfl) | refine J.region ?_ | refine JL.nil ?_ | refine J.inBlock ?_)
    refine J.intro fun w7 hw7 => ih (R2.length + R1.length) (by simp; omega) _ _ w7 ?_ ⟨P1, R2, R1, L ++ Q1, L.length, ((R1 ++ R2).length : Int) - L.length, by rw [← hPQ]; simp, by omega, by omega, by omega, by omega, by simp; omega, rfl, ((hE.trans hw2.ext.no).trans hE3).trans hw7.ext.no, (hR3.ext0 hw7.ext).eq (by simp), rfl⟩
    exact ⟨rfl, rfl, rfl, rfl, rfl, trivial⟩
end Go.Proofs.Ytmkpbbdocndfbaa
/- Plain lists: merging two sorted neighbours by parts (no program in sight). -/
namespace Go.Proofs.Ytmkpbbdocndfbaa
namespace St
variable {τ : Type} {key : τ → Int}
theorem last_le {A : List τ} {x y : τ} (hA : Srt key A) (hx : A.getLast? = some x) (hy : y ∈ A) : key y ≤ key x := by
  rcases List.eq_nil_or_concat A with rfl | ⟨A', z, rfl⟩
  · cases hy
  · rw [List.concat_eq_append] at *
    simp only [List.getLast?_append, List.getLast?_singleton] at hx
    cases hx
    rcases List.mem_append.1 hy with hy | hy
    · exact (Srt.parts hA).2.2 y hy _ (by simp)
    · simp at hy; subst hy; exact Int.le_refl _
theorem head_le {B : List τ} {x y : τ} (hB : Srt key B) (hx : B.head? = some x) (hy : y ∈ B) : key x ≤ key y := by
  cases B with
  | nil => cases hy
  | cons z B =>
    cases hx
    rcases List.mem_cons.1 hy with rfl | hy
    · exact Int.le_refl _
    · exact (List.pairwise_cons.1 hB).1 y hy
theorem le_ends {A B : List τ} (hA : Srt key A) (hB : Srt key B) (h : ∀ x y, A.getLast? = some x → B.head? = some y → key x ≤ key y) : ∀ x ∈ A, ∀ y ∈ B, key x ≤ key y := by
  intro x hx y hy
  cases hl : A.getLast? with
  | none => rw [List.getLast?_eq_none_iff.1 hl] at hx; cases hx
  | some a =>
    cases hh : B.head? with
    | none => rw [List.head?_eq_none_iff.1 hh] at hy; cases hy
    | some b => have h1 := last_le hA hl hx; have h2 := head_le hB hh hy; have h3 := h a b hl hh; omega
theorem lt_ends {A B : List τ} (hA : Srt key A) (hB : Srt key B) (h : ∀ x y, A.getLast? = some x → B.head? = some y → key x < key y) : ∀ x ∈ A, ∀ y ∈ B, key x < key y := by
  intro x hx y hy
  cases hl : A.getLast? with
  | none => rw [List.getLast?_eq_none_iff.1 hl] at hx; cases hx
  | some a =>
    cases hh : B.head? with
    | none => rw [List.head?_eq_none_iff.1 hh] at hy; cases hy
    | some b => have h1 := last_le hA hl hx; have h2 := head_le hB hh hy; have h3 := h a b hl hh; omega
theorem merge_split {A1 A2 B1 B2 : List τ} (hA : Srt key (A1 ++ A2)) (hB : Srt key (B1 ++ B2)) (h1 : ∀ x y, A1.getLast? = some x → B2.head? = some y → key x ≤ key y) (h2 : ∀ y x, B1.getLast? = some y → A2.head? = some x → key y < key x) :
    srt key (A1 ++ B1) ++ srt key (A2 ++ B2) = srt key (A1 ++ A2 ++ (B1 ++ B2)) := by
  obtain ⟨sA1, sA2, hAA⟩ := Srt.parts hA
  obtain ⟨sB1, sB2, hBB⟩ := Srt.parts hB
  have hl := le_ends sA1 sB2 h1
  have hs := lt_ends sB1 sA2 h2
  refine srt_uniq (Srt.app (srt_srt _) (srt_srt _) fun x hx y hy => ?_) ?_
  · rcases List.mem_append.1 (srt_mem.1 hx) with hx | hx <;> rcases List.mem_append.1 (srt_mem.1 hy) with hy | hy
    · exact hAA x hx y hy
    · exact hl x hx y hy
    · have := hs x hx y hy; omega
    · exact hBB x hx y hy
  · have e1 : A1 ++ A2 ++ (B1 ++ B2) = A1 ++ ((A2 ++ B1) ++ B2) := by simp
    have e2 : A1 ++ ((B1 ++ A2) ++ B2) = (A1 ++ B1) ++ (A2 ++ B2) := by simp
    rw [e1]
    have h3 : Stb key (A1 ++ ((A2 ++ B1) ++ B2)) ((A1 ++ B1) ++ (A2 ++ B2)) := by
      rw [← e2]
      exact (Stb.refl A1).app ((Stb.swap fun x hx y hy => by have := hs y hy x hx; omega).app (Stb.refl B2))
    exact h3.trans ((srt_stb _).app (srt_stb _))
theorem merge_one {x : τ} {B1 B2 : List τ} (hB : Srt key (B1 ++ B2)) (h1 : ∀ y, B1.getLast? = some y → key y < key x) (h2 : ∀ y, B2.head? = some y → key x ≤ key y) : srt key ([x] ++ (B1 ++ B2)) = B1 ++ x :: B2 := by
  have h := merge_split (A1 := []) (A2 := [x]) (B1 := B1) (B2 := B2) (by simp [Srt]) hB (by simp) (by simpa using h1)
  obtain ⟨sB1, sB2, hBB⟩ := Srt.parts hB
  have h3 : Srt key ([x] ++ B2) := Srt.app (by simp [Srt]) sB2 fun a ha y hy => by
    simp at ha; subst ha
    exact le_ends (A := [a]) (by simp [Srt]) sB2 (fun x z hx hz => by simp at hx; subst hx; exact h2 z hz) a (by simp) y hy
  rw [List.nil_append, srt_id sB1, srt_id h3] at h
  simpa using h.symm
theorem merge_end {y : τ} {A1 A2 : List τ} (hA : Srt key (A1 ++ A2)) (h1 : ∀ x, A1.getLast? = some x → key x ≤ key y) (h2 : ∀ x, A2.head? = some x → key y < key x) : srt key (A1 ++ A2 ++ [y]) = A1 ++ y :: A2 := by
  rw [srt_snoc, srt_id hA]
  obtain ⟨sA1, sA2, hAA⟩ := Srt.parts hA
  exact ins_split (le_ends sA1 (B := [y]) (by simp [Srt]) (by simpa using h1) · · y (by simp)) h2
theorem last_take {l : List τ} {t : Nat} {x : τ} (h : l[t]? = some x) : (l.take (t + 1)).getLast? = some x := by
  rw [List.take_succ_eq_append_getElem (by exact (List.getElem?_eq_some_iff.1 h).1)]
  simp [(List.getElem?_eq_some_iff.1 h).2]
theorem head_drop {l : List τ} {t : Nat} : (l.drop t).head? = l[t]? := by simp
end St
end Go.Proofs.Ytmkpbbdocndfbaa
/- slices.symMergeCmpFunc of messages. -/
namespace Go.Proofs.Ytmkpbbdocndfbaa
open Go.RowKit Go.Proofs
attribute [local irreducible] Yl JL J G GL GA GQ DR

abbrev cmpV (kb : Nat) : Value := .func (.func 146) #[] #[.pointer (some ⟨kb, 0, none⟩)]
theorem Ones.of {ts ts' : List (Value × Msg)} (h : Ones ts) (hs : ∀ p, p ∈ ts' → p ∈ ts) : Ones ts' := fun p hp => h p (hs p hp)
theorem at_app {τ : Type} {P A R : List τ} {t : Nat} {x : τ} (h : A[t]? = some x) : (P ++ A ++ R)[P.length + t]? = some x := by
  rw [List.append_assoc, List.getElem?_append_right (by omega), Nat.add_sub_cancel_left, List.getElem?_append_left (List.getElem?_eq_some_iff.1 h).1, h]

section
variable {w : World} {g m c kb : Nat} {P A B Q : List (Value × Msg)} {a d b : Int}

set_option maxHeartbeats 2000000 in
/-- One ahead. -/
theorem symMerge_one {w : World} {P A B Q : List (Value × Msg)} {a d b : Int} (hrow : MRow w (.slice (some ⟨g, 0, none⟩) m c) (P ++ A ++ B ++ Q)) (hone : Ones (P ++ A ++ B ++ Q)) (hk : KeyAt kb w) (_ : kb ≠ g) (hsA : St.Srt mkey A) (hsBB : St.Srt mkey B) (hA : 0 < A.length) (hB : 0 < B.length)
    (ha : a = P.length) (hd : d = P.length + A.length) (hb : b = P.length + A.length + B.length) (hn : (P ++ A ++ B ++ Q).length ≤ 1000000) (hx1 : A.length = 1) :
    Calls Try.prog 167 #[.slice (some ⟨g, 0, none⟩) m c, .int .i64 a, .int .i64 d, .int .i64 b, cmpV kb] w
      fun e w' => e = .returned (.tuple #[]) ∧ Ext (fun k => k = g) w w' ∧ MRow w' (.slice (some ⟨g, 0, none⟩) m c) (P ++ St.srt mkey (A ++ B) ++ Q) := by
  have hm : m = (P ++ A ++ B ++ Q).length := by obtain ⟨A', c', hv, _⟩ := Row.slice hrow; cases hv; simp
  have hlen : (P ++ A ++ B ++ Q).length = P.length + A.length + B.length + Q.length := by simp [Nat.add_assoc]
  rw [hlen] at hm hn
  have la : ∀ {t : Nat} {x : Value × Msg}, A[t]? = some x → ∀ {q : Nat}, q = (P.length + t) * 5 → Foot (Lds Try.prog 33 ((⟨g, 0, none⟩ : Addr).add q) (.agg (msgC x.1 x.2).toArray)) w (fun k => k = g) := fun h q hq => (hrow.eq (by simp)).lds (at_app (R := B ++ Q) h) hq
  have lb : ∀ {t : Nat} {x : Value × Msg}, B[t]? = some x → ∀ {q : Nat}, q = (P.length + A.length + t) * 5 → Foot (Lds Try.prog 33 ((⟨g, 0, none⟩ : Addr).add q) (.agg (msgC x.1 x.2).toArray)) w (fun k => k = g) := fun h q hq => (hrow.eq (by simp)).lds (at_app (P := P ++ A) (R := Q) h) (by rw [hq]; simp)
  refine Calls.of_G5 Try.func167 rfl Try.ntmps167 rfl ?_
  refine J.at (C := Cls w No []) ?_ (Cls.start _ _)
  repeat (first | (apply JL.y; (first | (apply Y_move; rfl) | (apply Y_eql; rfl; rfl) | (apply Y_sub; rfl; rfl; omega)); rfl) | refine J.seq ?_ | refine J.region ?_ | refine JL.nil ?_)
  refine J.cond_d rfl (fun h1 => ?_) (fun h1 => by exfalso; omega)
  · obtain ⟨x, rfl⟩ : ∃ x, A = [x] := List.length_eq_one_iff.1 (by omega)
    have hox : x.1.oneCell' = true := hone x (by simp)
    have lx := la (t := 0) (x := x) rfl (q := a.toNat * 5) (by omega)
    simp only [List.length_cons, List.length_nil] at hm hd hb hn
    repeat (first | (apply JL.y; (first | (apply Y_move; rfl) | (apply Y_assign; rfl)); rfl) | refine J.seq ?_ | refine J.region ?_ | refine JL.nil ?_ | refine J.block ?_)
    refine J.intro fun wl hwl => G.loop (Inv := fun mm e wl => ∃ (r s : Nat) (i j : Int), r ≤ s ∧ s ≤ B.length ∧ (∀ y, (B.take r).getLast? = some y → mkey y < mkey x) ∧ (∀ y, (B.drop s).head? = some y → mkey x ≤ mkey y) ∧ i = d + r ∧ j = d + s ∧ mm = s - r ∧ Ext No w wl ∧ e = [(0, .slice (some ⟨g, 0, none⟩) m c), (1, .int .i64 a), (4, cmpV kb), (10, .int .i64 i), (11, .int .i64 j)])
      _ _ ⟨0, B.length, _, _, by omega, by omega, by simp, by simp, by omega, by omega, rfl, hwl.ext, rfl⟩ ⟨rfl, rfl, rfl, rfl, rfl, trivial⟩ ?_
    rintro mm e w1 ⟨r, s, i, j, hrs, hsB, hlo, hhi, hi, hj, rfl, hE, rfl⟩ ih
    refine J.at (C := Cls w1 No []) ?_ (Cls.start _ _)
    repeat (first | (apply JL.y; (first | (apply Y_move; rfl) | (apply Y_lss; rfl; rfl)); rfl) | refine J.seq ?_ | refine J.region ?_ | refine JL.nil ?_)
    refine J.cond_d rfl (fun hlt => ?_) (fun hlt => ?_)
    · repeat (first | (apply JL.y; (first | (apply Y_move; rfl) | (apply Y_assign; rfl) | (apply Y_add; rfl; rfl; omega) | (apply Y_half; rfl) | (apply Y_convU; rfl; omega) | (apply Y_convI; rfl; omega)); rfl) | refine J.seq ?_ | refine J.region ?_ | refine JL.nil ?_ | refine J.skip ?_ | refine J.block ?_)
      obtain ⟨y, hy⟩ : ∃ y, B[(r + s) / 2]? = some y := ⟨_, List.getElem?_eq_getElem (by omega)⟩
      have hoy : y.1.oneCell' = true := hone y (by simp [List.mem_of_getElem? hy])
      have ly := lb hy (q := ((i + j) / 2).toNat * 5) (by simp; omega)
      refine J.draw (S := Cls _ _ _) [] #[false, false, false, false, false, false, false, false, false, false, false] rfl rfl (fun w hw => hw.drew) (fun w hS => ?_)
      (apply DR.pure 0 #[true, false, false, false, false, false, false, false, false, false, false]; rfl; kernel_rfl; (apply Y_move; rfl); rfl)
      (apply DR.pure 1 #[true, true, false, false, false, false, false, false, false, false, false]; rfl; kernel_rfl; (apply Y_move; rfl); rfl)
      (apply DR.pure 2 #[true, true, true, false, false, false, false, false, false, false, false]; rfl; kernel_rfl; (apply Y_move; rfl); rfl)
      (apply DR.pure 3 #[true, true, true, true, false, false, false, false, false, false, false]; rfl; kernel_rfl; (apply Y_indexAddr; rfl; rfl; omega); rfl)
      (apply DR.take 4 #[true, true, true, true, true, false, false, false, false, false, false]; rfl; kernel_rfl; exact Y_loadP rfl fun w hw => (ly.ext0 hE).at_ hw.ext fun _ _ _ h => h; rfl; exact hS)
      (apply DR.pure 5 #[true, true, true, true, true, true, false, false, false, false, false]; rfl; kernel_rfl; (apply Y_move; rfl); rfl)
      (apply DR.pure 6 #[true, true, true, true, true, true, true, false, false, false, false]; rfl; kernel_rfl; (apply Y_move; rfl); rfl)
      (apply DR.pure 7 #[true, true, true, true, true, true, true, true, false, false, false]; rfl; kernel_rfl; (apply Y_indexAddr; rfl; rfl; omega); rfl)
      (apply DR.take 8 #[true, true, true, true, true, true, true, true, true, false, false]; rfl; kernel_rfl; exact Y_loadP rfl fun w hw => (lx.ext0 hE).at_ hw.ext fun _ _ _ h => h; rfl; exact hS)
      apply DR.callqC (cap := [.pointer (some ⟨kb, 0, none⟩)]) 9 #[true, true, true, true, true, true, true, true, true, true, false]; rfl; kernel_rfl; rfl; rfl; exact inferInstance; rfl; rfl; exact cmp_spec ((hk.ext hE id).ext hS.ext id) y x hoy hox; (intro w' hw'; exact hS.ext0 hw'); intro w9 hE9 hS
      (apply DR.pure 10 #[true, true, true, true, true, true, true, true, true, true, true]; rfl; kernel_rfl; (apply Y_lss; rfl; rfl); rfl)
      refine DR.done (by kernel_rfl) ?_
      refine J.at (C := Cls _ _ _) ?_ hS
      refine J.cond_d rfl (fun hc => ?_) (fun hc => ?_)
      · have hlt' : mkey y < mkey x := (cmpI_neg _ _).1 hc
        repeat (first | (apply JL.y; (first | (apply Y_move; rfl) | (apply Y_assign; rfl) | (apply Y_add; rfl; rfl; omega)); rfl) | refine J.region ?_ | refine JL.nil ?_ | refine J.inBlock ?_)
        refine J.intro fun w2 hw2 => ih (s - ((r + s) / 2 + 1)) (by omega) _ _ w2 ?_ ⟨(r + s) / 2 + 1, s, (i + j) / 2 + 1, j, by omega, by omega, fun z hz => ?_, hhi, by omega, hj, rfl, hE.trans hw2.ext, rfl⟩
        · exact ⟨rfl, rfl, rfl, rfl, rfl, trivial⟩
        · rw [St.last_take hy] at hz; cases hz; exact hlt'
      · have hlt' : mkey x ≤ mkey y := Int.not_lt.1 fun h => hc ((cmpI_neg _ _).2 h)
        repeat (first | (apply JL.y; (first | (apply Y_move; rfl) | (apply Y_assign; rfl)); rfl) | refine J.region ?_ | refine JL.nil ?_ | refine J.inBlock ?_)
        refine J.intro fun w2 hw2 => ih ((r + s) / 2 - r) (by omega) _ _ w2 ?_ ⟨r, (r + s) / 2, i, (i + j) / 2, by omega, by omega, hlo, fun z hz => ?_, hi, by omega, rfl, hE.trans hw2.ext, rfl⟩
        · exact ⟨rfl, rfl, rfl, rfl, rfl, trivial⟩
        · rw [St.head_drop, hy] at hz; cases hz; exact hlt'
    · have hrs' : s = r := by omega
      subst hrs'
      have hB12 : B.take s ++ B.drop s = B := List.take_append_drop s B
      have hres := St.merge_one (key := mkey) (x := x) (B1 := B.take s) (B2 := B.drop s) (by rw [hB12]; exact hsBB) hlo hhi
      rw [hB12] at hres
      have hBl : (B.take s).length = s := by rw [List.length_take]; omega
      generalize B.take s = B1 at *
      generalize B.drop s = B2 at *
      repeat (first | (apply JL.y; (first | (apply Y_move; rfl) | (apply Y_assign; rfl)); rfl) | refine J.seq ?_ | refine J.region ?_ | refine JL.nil ?_ | refine J.block ?_ | (apply J.exit; rfl))
      refine J.intro fun w2 hw2 => G.loop (Inv := fun mm e wl => ∃ (T1 T2 : List (Value × Msg)) (k : Int), B1 = T1 ++ T2 ∧ k = a + T1.length ∧ mm = T2.length ∧ Ext (fun k => k = g) w wl ∧ MRow wl (.slice (some ⟨g, 0, none⟩) m c) ((P ++ T1) ++ x :: (T2 ++ B2 ++ Q)) ∧ e = [(0, .slice (some ⟨g, 0, none⟩) m c), (10, .int .i64 i), (13, .int .i64 k)])
        _ _ ⟨[], B1, _, rfl, by simp, rfl, (hE.trans hw2.ext).no, ((hrow.ext0 hE).ext0 hw2.ext).eq (by rw [← hB12]; simp), rfl⟩ ⟨rfl, rfl, rfl, trivial⟩ ?_
      rintro mm e w3 ⟨T1, T2, k, rfl, hk1, rfl, hE3, hR3, rfl⟩ ih2
      refine J.at (C := Cls w3 No []) ?_ (Cls.start _ _)
      have hT : (T1 ++ T2).length = T1.length + T2.length := by simp
      have hPT : (P ++ T1).length = P.length + T1.length := by simp
      repeat (first | (apply JL.y; (first | (apply Y_move; rfl) | (apply Y_lss; rfl; rfl) | (apply Y_sub; rfl; rfl; omega)); rfl) | refine J.seq ?_ | refine J.region ?_ | refine JL.nil ?_)
      refine J.cond_d rfl (fun hlt2 => ?_) (fun hlt2 => ?_)
      case refine_2 =>
        have h1 : T2 = [] := List.eq_nil_of_length_eq_zero (by omega)
        subst h1
        repeat (first | (apply J.exit; rfl))
        exact J.ret0 Try.func167 Try.results167 fun w' hw => ⟨rfl, hE3.trans hw.ext.no, (hR3.ext0 hw.ext).eq (by rw [hres]; simp)⟩
      cases T2 with
      | nil => simp at hBl; omega
      | cons y T2 =>
      have hoy : y.1.oneCell' = true := hone y (by rw [← hB12]; simp)
      have lx3 := hR3.lds (get_mid _ _ _) (q := k.toNat * 5) (by omega)
      have ly3 := (hR3.eq (by simp)).lds (far_2 (P ++ T1) x [] y (T2 ++ B2 ++ Q) rfl) (q := (k + 1).toNat * 5) (by simp; omega)
      have hR3' := hR3.eq (ts' := (P ++ T1) ++ x :: y :: (T2 ++ B2 ++ Q)) (by simp)
      have hBQ : B.length + Q.length ≤ 1000000 := by omega
      have hBB := congrArg List.length hB12
      simp only [List.length_append, List.length_cons] at hBB hT hBl
      repeat (first | refine J.seq ?_ | refine J.skip ?_ | refine J.block ?_)
      refine J.draw (S := Cls _ _ _) [15, 17] #[false, false, false, false, false, false, false, false, false, false, false, false, false, false, false, false, false, false] rfl rfl (fun w hw => hw.drew) (fun w hS => ?_)
      (apply DR.pure 0 #[true, false, false, false, false, false, false, false, false, false, false, false, false, false, false, false, false, false]; rfl; kernel_rfl; (apply Y_move; rfl); rfl)
      (apply DR.pure 1 #[true, true, false, false, false, false, false, false, false, false, false, false, false, false, false, false, false, false]; rfl; kernel_rfl; (apply Y_move; rfl); rfl)
      (apply DR.pure 2 #[true, true, true, false, false, false, false, false, false, false, false, false, false, false, false, false, false, false]; rfl; kernel_rfl; (apply Y_move; rfl); rfl)
      (apply DR.pure 3 #[true, true, true, true, false, false, false, false, false, false, false, false, false, false, false, false, false, false]; rfl; kernel_rfl; (apply Y_move; rfl); rfl)
      (apply DR.pure 4 #[true, true, true, true, true, false, false, false, false, false, false, false, false, false, false, false, false, false]; rfl; kernel_rfl; (apply Y_add; rfl; rfl; omega); rfl)
      (apply DR.pure 5 #[true, true, true, true, true, true, false, false, false, false, false, false, false, false, false, false, false, false]; rfl; kernel_rfl; (apply Y_move; rfl); rfl)
      (apply DR.pure 6 #[true, true, true, true, true, true, true, false, false, false, false, false, false, false, false, false, false, false]; rfl; kernel_rfl; (apply Y_move; rfl); rfl)
      (apply DR.pure 7 #[true, true, true, true, true, true, true, true, false, false, false, false, false, false, false, false, false, false]; rfl; kernel_rfl; (apply Y_add; rfl; rfl; omega); rfl)
      (apply DR.pure 8 #[true, true, true, true, true, true, true, true, true, false, false, false, false, false, false, false, false, false]; rfl; kernel_rfl; (apply Y_indexAddr; rfl; rfl; omega); rfl)
      (apply DR.take 9 #[true, true, true, true, true, true, true, true, true, true, false, false, false, false, false, false, false, false]; rfl; kernel_rfl; exact Y_loadP rfl fun w hw => ly3.at_ hw.ext fun _ _ _ h => h; rfl; exact hS)
      (apply DR.pure 10 #[true, true, true, true, true, true, true, true, true, true, true, false, false, false, false, false, false, false]; rfl; kernel_rfl; (apply Y_move; rfl); rfl)
      (apply DR.pure 11 #[true, true, true, true, true, true, true, true, true, true, true, true, false, false, false, false, false, false]; rfl; kernel_rfl; (apply Y_move; rfl); rfl)
      (apply DR.pure 12 #[true, true, true, true, true, true, true, true, true, true, true, true, true, false, false, false, false, false]; rfl; kernel_rfl; (apply Y_indexAddr; rfl; rfl; omega); rfl)
      (apply DR.take 13 #[true, true, true, true, true, true, true, true, true, true, true, true, true, true, false, false, false, false]; rfl; kernel_rfl; exact Y_loadP rfl fun w hw => lx3.at_ hw.ext fun _ _ _ h => h; rfl; exact hS)
      (apply DR.pure 14 #[true, true, true, true, true, true, true, true, true, true, true, true, true, true, true, false, false, false]; rfl; kernel_rfl; (apply Y_indexAddr; rfl; rfl; omega); rfl)
      refine DR.rowStore 15 #[true, true, true, true, true, true, true, true, true, true, true, true, true, true, true, true, false, false] rfl (by kernel_rfl) rfl _ rfl rfl (MRow.set (hR3'.ext0 hS.ext) (i := (P ++ T1).length) (by simp) hoy (by omega)) (fun w5 ⟨hR5, hE5⟩ => ?_)
      (apply DR.pure 16 #[true, true, true, true, true, true, true, true, true, true, true, true, true, true, true, true, true, false]; rfl; kernel_rfl; (apply Y_indexAddr; rfl; rfl; omega); rfl)
      refine DR.rowStore 17 #[true, true, true, true, true, true, true, true, true, true, true, true, true, true, true, true, true, true] rfl (by kernel_rfl) rfl _ rfl rfl (MRow.set hR5 (i := (P ++ T1).length + 1) (by simp; omega) hox (by omega)) (fun w6 ⟨hR6, hE6⟩ => ?_)
      refine DR.done (by kernel_rfl) ?_
      refine J.at (C := Cls w6 No []) ?_ (Cls.start _ _)
      have hE36 : Ext (fun k => k = g) w3 w6 := (hS.ext.no.trans hE5).trans hE6
      repeat (first | (apply JL.y; (first | (apply Y_move; rfl) | (apply Y_assign; rfl) | (apply Y_add; rfl; rfl; omega)); rfl) | refine J.region ?_ | refine JL.nil ?_ | refine J.inBlock ?_)
      refine J.intro fun w7 hw7 => ih2 T2.length (by simp) _ _ w7 ?_ ⟨T1 ++ [y], T2, k + 1, by simp, by simp; omega, rfl, (hE3.trans hE36).trans hw7.ext.no, (hR6.ext0 hw7.ext).eq ?_, rfl⟩
      · exact ⟨rfl, rfl, rfl, trivial⟩
      · rw [swap_mid' _ _ _ _ rfl rfl]; simp

set_option maxHeartbeats 2000000 in
/-- One behind. -/
theorem symMerge_end {w : World} {P A B Q : List (Value × Msg)} {a d b : Int} (hrow : MRow w (.slice (some ⟨g, 0, none⟩) m c) (P ++ A ++ B ++ Q)) (hone : Ones (P ++ A ++ B ++ Q)) (hk : KeyAt kb w) (_ : kb ≠ g) (hsA : St.Srt mkey A) (hsBB : St.Srt mkey B) (hA : 0 < A.length) (hB : 0 < B.length)
    (ha : a = P.length) (hd : d = P.length + A.length) (hb : b = P.length + A.length + B.length) (hn : (P ++ A ++ B ++ Q).length ≤ 1000000) (hx1 : A.length ≠ 1) (hx2 : B.length = 1) :
    Calls Try.prog 167 #[.slice (some ⟨g, 0, none⟩) m c, .int .i64 a, .int .i64 d, .int .i64 b, cmpV kb] w
      fun e w' => e = .returned (.tuple #[]) ∧ Ext (fun k => k = g) w w' ∧ MRow w' (.slice (some ⟨g, 0, none⟩) m c) (P ++ St.srt mkey (A ++ B) ++ Q) := by
  have hm : m = (P ++ A ++ B ++ Q).length := by obtain ⟨A', c', hv, _⟩ := Row.slice hrow; cases hv; simp
  have hlen : (P ++ A ++ B ++ Q).length = P.length + A.length + B.length + Q.length := by simp [Nat.add_assoc]
  rw [hlen] at hm hn
  have la : ∀ {t : Nat} {x : Value × Msg}, A[t]? = some x → ∀ {q : Nat}, q = (P.length + t) * 5 → Foot (Lds Try.prog 33 ((⟨g, 0, none⟩ : Addr).add q) (.agg (msgC x.1 x.2).toArray)) w (fun k => k = g) := fun h q hq => (hrow.eq (by simp)).lds (at_app (R := B ++ Q) h) hq
  have lb : ∀ {t : Nat} {x : Value × Msg}, B[t]? = some x → ∀ {q : Nat}, q = (P.length + A.length + t) * 5 → Foot (Lds Try.prog 33 ((⟨g, 0, none⟩ : Addr).add q) (.agg (msgC x.1 x.2).toArray)) w (fun k => k = g) := fun h q hq => (hrow.eq (by simp)).lds (at_app (P := P ++ A) (R := Q) h) (by rw [hq]; simp)
  refine Calls.of_G5 Try.func167 rfl Try.ntmps167 rfl ?_
  refine J.at (C := Cls w No []) ?_ (Cls.start _ _)
  repeat (first | (apply JL.y; (first | (apply Y_move; rfl) | (apply Y_eql; rfl; rfl) | (apply Y_sub; rfl; rfl; omega)); rfl) | refine J.seq ?_ | refine J.region ?_ | refine JL.nil ?_)
  refine J.cond_d rfl (fun h1 => by exfalso; omega) (fun h1 => ?_)
  repeat (first | (apply JL.y; (first | (apply Y_move; rfl) | (apply Y_eql; rfl; rfl) | (apply Y_sub; rfl; rfl; omega)); rfl) | refine J.seq ?_ | refine J.region ?_ | refine JL.nil ?_ | refine J.skip ?_)
  refine J.cond_d rfl (fun h2 => ?_) (fun h2 => by exfalso; omega)
  · obtain ⟨y, rfl⟩ : ∃ y, B = [y] := List.length_eq_one_iff.1 (by omega)
    have hoy : y.1.oneCell' = true := hone y (by simp)
    have ly := lb (t := 0) (x := y) rfl (q := d.toNat * 5) (by omega)
    simp only [List.length_cons, List.length_nil] at hm hb hn
    repeat (first | (apply JL.y; (first | (apply Y_move; rfl) | (apply Y_assign; rfl)); rfl) | refine J.seq ?_ | refine J.region ?_ | refine JL.nil ?_ | refine J.block ?_)
    refine J.intro fun wl hwl => G.loop (Inv := fun mm e wl => ∃ (r s : Nat) (i j : Int), r ≤ s ∧ s ≤ A.length ∧ (∀ x, (A.take r).getLast? = some x → mkey x ≤ mkey y) ∧ (∀ x, (A.drop s).head? = some x → mkey y < mkey x) ∧ i = a + r ∧ j = a + s ∧ mm = s - r ∧ Ext No w wl ∧ e = [(0, .slice (some ⟨g, 0, none⟩) m c), (2, .int .i64 d), (4, cmpV kb), (14, .int .i64 i), (15, .int .i64 j)])
      _ _ ⟨0, A.length, _, _, by omega, by omega, by simp, by simp, by omega, by omega, rfl, hwl.ext, rfl⟩ ⟨rfl, rfl, rfl, rfl, rfl, trivial⟩ ?_
    rintro mm e w1 ⟨r, s, i, j, hrs, hsB, hlo, hhi, hi, hj, rfl, hE, rfl⟩ ih
    refine J.at (C := Cls w1 No []) ?_ (Cls.start _ _)
    repeat (first | (apply JL.y; (first | (apply Y_move; rfl) | (apply Y_lss; rfl; rfl)); rfl) | refine J.seq ?_ | refine J.region ?_ | refine JL.nil ?_)
    refine J.cond_d rfl (fun hlt => ?_) (fun hlt => ?_)
    · repeat (first | (apply JL.y; (first | (apply Y_move; rfl) | (apply Y_assign; rfl) | (apply Y_add; rfl; rfl; omega) | (apply Y_half; rfl) | (apply Y_convU; rfl; omega) | (apply Y_convI; rfl; omega)); rfl) | refine J.seq ?_ | refine J.region ?_ | refine JL.nil ?_ | refine J.skip ?_ | refine J.block ?_)
      obtain ⟨x, hx⟩ : ∃ x, A[(r + s) / 2]? = some x := ⟨_, List.getElem?_eq_getElem (by omega)⟩
      have hox : x.1.oneCell' = true := hone x (by simp [List.mem_of_getElem? hx])
      have lx := la hx (q := ((i + j) / 2).toNat * 5) (by omega)
      refine J.draw (S := Cls _ _ _) [] #[false, false, false, false, false, false, false, false, false, false, false, false] rfl rfl (fun w hw => hw.drew) (fun w hS => ?_)
      (apply DR.pure 0 #[true, false, false, false, false, false, false, false, false, false, false, false]; rfl; kernel_rfl; (apply Y_move; rfl); rfl)
      (apply DR.pure 1 #[true, true, false, false, false, false, false, false, false, false, false, false]; rfl; kernel_rfl; (apply Y_move; rfl); rfl)
      (apply DR.pure 2 #[true, true, true, false, false, false, false, false, false, false, false, false]; rfl; kernel_rfl; (apply Y_move; rfl); rfl)
      (apply DR.pure 3 #[true, true, true, true, false, false, false, false, false, false, false, false]; rfl; kernel_rfl; (apply Y_indexAddr; rfl; rfl; omega); rfl)
      (apply DR.take 4 #[true, true, true, true, true, false, false, false, false, false, false, false]; rfl; kernel_rfl; exact Y_loadP rfl fun w hw => (ly.ext0 hE).at_ hw.ext fun _ _ _ h => h; rfl; exact hS)
      (apply DR.pure 5 #[true, true, true, true, true, true, false, false, false, false, false, false]; rfl; kernel_rfl; (apply Y_move; rfl); rfl)
      (apply DR.pure 6 #[true, true, true, true, true, true, true, false, false, false, false, false]; rfl; kernel_rfl; (apply Y_move; rfl); rfl)
      (apply DR.pure 7 #[true, true, true, true, true, true, true, true, false, false, false, false]; rfl; kernel_rfl; (apply Y_indexAddr; rfl; rfl; omega); rfl)
      (apply DR.take 8 #[true, true, true, true, true, true, true, true, true, false, false, false]; rfl; kernel_rfl; exact Y_loadP rfl fun w hw => (lx.ext0 hE).at_ hw.ext fun _ _ _ h => h; rfl; exact hS)
      apply DR.callqC (cap := [.pointer (some ⟨kb, 0, none⟩)]) 9 #[true, true, true, true, true, true, true, true, true, true, false, false]; rfl; kernel_rfl; rfl; rfl; exact inferInstance; rfl; rfl; exact cmp_spec ((hk.ext hE id).ext hS.ext id) y x hoy hox; (intro w' hw'; exact hS.ext0 hw'); intro w9 hE9 hS
      (apply DR.pure 10 #[true, true, true, true, true, true, true, true, true, true, true, false]; rfl; kernel_rfl; (apply Y_lss; rfl; rfl); rfl)
      (apply DR.pure 11 #[true, true, true, true, true, true, true, true, true, true, true, true]; rfl; kernel_rfl; (first | (apply Y_not_d; rfl) | (apply Y_not; rfl)); rfl)
      refine DR.done (by kernel_rfl) ?_
      refine J.at (C := Cls _ _ _) ?_ hS
      refine J.cond_d rfl (fun hc => ?_) (fun hc => ?_)
      · have hlt' : mkey x ≤ mkey y := Int.not_lt.1 fun h => hc ((cmpI_neg _ _).2 h)
        repeat (first | (apply JL.y; (first | (apply Y_move; rfl) | (apply Y_assign; rfl) | (apply Y_add; rfl; rfl; omega)); rfl) | refine J.region ?_ | refine JL.nil ?_ | refine J.inBlock ?_)
        refine J.intro fun w2 hw2 => ih (s - ((r + s) / 2 + 1)) (by omega) _ _ w2 ?_ ⟨(r + s) / 2 + 1, s, (i + j) / 2 + 1, j, by omega, by omega, fun z hz => ?_, hhi, by omega, hj, rfl, hE.trans hw2.ext, rfl⟩
        · exact ⟨rfl, rfl, rfl, rfl, rfl, trivial⟩
        · rw [St.last_take hx] at hz; cases hz; exact hlt'
      · have hlt' : mkey y < mkey x := (cmpI_neg _ _).1 (Classical.not_not.1 hc)
        repeat (first | (apply JL.y; (first | (apply Y_move; rfl) | (apply Y_assign; rfl)); rfl) | refine J.region ?_ | refine JL.nil ?_ | refine J.inBlock ?_)
        refine J.intro fun w2 hw2 => ih ((r + s) / 2 - r) (by omega) _ _ w2 ?_ ⟨r, (r + s) / 2, i, (i + j) / 2, by omega, by omega, hlo, fun z hz => ?_, hi, by omega, rfl, hE.trans hw2.ext, rfl⟩
        · exact ⟨rfl, rfl, rfl, rfl, rfl, trivial⟩
        · rw [St.head_drop, hx] at hz; cases hz; exact hlt'
    · have hrs' : s = r := by omega
      subst hrs'
      have hA12 : A.take s ++ A.drop s = A := List.take_append_drop s A
      have hres := St.merge_end (key := mkey) (y := y) (A1 := A.take s) (A2 := A.drop s) (by rw [hA12]; exact hsA) hlo hhi
      rw [hA12] at hres
      have hAl : (A.take s).length = s := by rw [List.length_take]; omega
      have hAl2 : (A.drop s).length = A.length - s := by rw [List.length_drop]
      generalize A.take s = A1 at *
      generalize A.drop s = A2 at *
      repeat (first | (apply JL.y; (first | (apply Y_move; rfl) | (apply Y_assign; rfl)); rfl) | refine J.seq ?_ | refine J.region ?_ | refine JL.nil ?_ | refine J.block ?_ | (apply J.exit; rfl))
      refine J.intro fun w2 hw2 => G.loop (Inv := fun mm e wl => ∃ (T1 T2 : List (Value × Msg)) (k : Int), A2 = T1 ++ T2 ∧ k = a + s + T1.length ∧ mm = T1.length ∧ Ext (fun k => k = g) w wl ∧ MRow wl (.slice (some ⟨g, 0, none⟩) m c) ((P ++ A1 ++ T1) ++ y :: (T2 ++ Q)) ∧ e = [(0, .slice (some ⟨g, 0, none⟩) m c), (14, .int .i64 i), (17, .int .i64 k)])
        _ _ ⟨A2, [], _, by simp, by omega, rfl, (hE.trans hw2.ext).no, ((hrow.ext0 hE).ext0 hw2.ext).eq (by rw [← hA12]; simp), rfl⟩ ⟨rfl, rfl, rfl, trivial⟩ ?_
      rintro mm e w3 ⟨T1, T2, k, rfl, hk1, rfl, hE3, hR3, rfl⟩ ih2
      refine J.at (C := Cls w3 No []) ?_ (Cls.start _ _)
      have hT : (T1 ++ T2).length = T1.length + T2.length := by simp
      repeat (first | (apply JL.y; (first | (apply Y_move; rfl) | (apply Y_gtr; rfl; rfl)); rfl) | refine J.seq ?_ | refine J.region ?_ | refine JL.nil ?_)
      refine J.cond_d rfl (fun hlt2 => ?_) (fun hlt2 => ?_)
      case refine_2 =>
        have h1 : T1 = [] := List.eq_nil_of_length_eq_zero (by omega)
        subst h1
        repeat (first | (apply J.exit; rfl))
        exact J.ret0 Try.func167 Try.results167 fun w' hw => ⟨rfl, hE3.trans hw.ext.no, (hR3.ext0 hw.ext).eq (by rw [hres]; simp)⟩
      rcases List.eq_nil_or_concat T1 with rfl | ⟨T1', z, rfl⟩
      · simp at hk1; omega
      rw [List.concat_eq_append] at *
      have hz1 : (T1' ++ [z]).length = T1'.length + 1 := by simp
      have hz2 : (P ++ A1 ++ T1').length = P.length + A1.length + T1'.length := by simp [Nat.add_assoc]
      have hoz : z.1.oneCell' = true := hone z (by rw [← hA12]; simp)
      have hR3' := hR3.eq (ts' := (P ++ A1 ++ T1') ++ z :: y :: (T2 ++ Q)) (by simp)
      have lz3 := hR3'.lds (get_mid _ _ _) (q := (k - 1).toNat * 5) (by omega)
      have ly3 := (hR3'.eq (by simp)).lds (far_2 (P ++ A1 ++ T1') z [] y (T2 ++ Q) rfl) (q := k.toNat * 5) (by simp; omega)
      repeat (first | refine J.seq ?_ | refine J.skip ?_ | refine J.block ?_)
      refine J.draw (S := Cls _ _ _) [15, 17] #[false, false, false, false, false, false, false, false, false, false, false, false, false, false, false, false, false, false] rfl rfl (fun w hw => hw.drew) (fun w hS => ?_)
      (apply DR.pure 0 #[true, false, false, false, false, false, false, false, false, false, false, false, false, false, false, false, false, false]; rfl; kernel_rfl; (apply Y_move; rfl); rfl)
      (apply DR.pure 1 #[true, true, false, false, false, false, false, false, false, false, false, false, false, false, false, false, false, false]; rfl; kernel_rfl; (apply Y_move; rfl); rfl)
      (apply DR.pure 2 #[true, true, true, false, false, false, false, false, false, false, false, false, false, false, false, false, false, false]; rfl; kernel_rfl; (apply Y_move; rfl); rfl)
      (apply DR.pure 3 #[true, true, true, true, false, false, false, false, false, false, false, false, false, false, false, false, false, false]; rfl; kernel_rfl; (apply Y_move; rfl); rfl)
      (apply DR.pure 4 #[true, true, true, true, true, false, false, false, false, false, false, false, false, false, false, false, false, false]; rfl; kernel_rfl; (apply Y_sub; rfl; rfl; omega); rfl)
      (apply DR.pure 5 #[true, true, true, true, true, true, false, false, false, false, false, false, false, false, false, false, false, false]; rfl; kernel_rfl; (apply Y_move; rfl); rfl)
      (apply DR.pure 6 #[true, true, true, true, true, true, true, false, false, false, false, false, false, false, false, false, false, false]; rfl; kernel_rfl; (apply Y_move; rfl); rfl)
      (apply DR.pure 7 #[true, true, true, true, true, true, true, true, false, false, false, false, false, false, false, false, false, false]; rfl; kernel_rfl; (apply Y_sub; rfl; rfl; omega); rfl)
      (apply DR.pure 8 #[true, true, true, true, true, true, true, true, true, false, false, false, false, false, false, false, false, false]; rfl; kernel_rfl; (apply Y_indexAddr; rfl; rfl; omega); rfl)
      (apply DR.take 9 #[true, true, true, true, true, true, true, true, true, true, false, false, false, false, false, false, false, false]; rfl; kernel_rfl; exact Y_loadP rfl fun w hw => lz3.at_ hw.ext fun _ _ _ h => h; rfl; exact hS)
      (apply DR.pure 10 #[true, true, true, true, true, true, true, true, true, true, true, false, false, false, false, false, false, false]; rfl; kernel_rfl; (apply Y_move; rfl); rfl)
      (apply DR.pure 11 #[true, true, true, true, true, true, true, true, true, true, true, true, false, false, false, false, false, false]; rfl; kernel_rfl; (apply Y_move; rfl); rfl)
      (apply DR.pure 12 #[true, true, true, true, true, true, true, true, true, true, true, true, true, false, false, false, false, false]; rfl; kernel_rfl; (apply Y_indexAddr; rfl; rfl; omega); rfl)
      (apply DR.take 13 #[true, true, true, true, true, true, true, true, true, true, true, true, true, true, false, false, false, false]; rfl; kernel_rfl; exact Y_loadP rfl fun w hw => ly3.at_ hw.ext fun _ _ _ h => h; rfl; exact hS)
      (apply DR.pure 14 #[true, true, true, true, true, true, true, true, true, true, true, true, true, true, true, false, false, false]; rfl; kernel_rfl; (apply Y_indexAddr; rfl; rfl; omega); rfl)
      refine DR.rowStore 15 #[true, true, true, true, true, true, true, true, true, true, true, true, true, true, true, true, false, false] rfl (by kernel_rfl) rfl _ rfl rfl (MRow.set (hR3'.ext0 hS.ext) (i := (P ++ A1 ++ T1').length + 1) (by simp; omega) hoz (by omega)) (fun w5 ⟨hR5, hE5⟩ => ?_)
      (apply DR.pure 16 #[true, true, true, true, true, true, true, true, true, true, true, true, true, true, true, true, true, false]; rfl; kernel_rfl; (apply Y_indexAddr; rfl; rfl; omega); rfl)
      refine DR.rowStore 17 #[true, true, true, true, true, true, true, true, true, true, true, true, true, true, true, true, true, true] rfl (by kernel_rfl) rfl _ rfl rfl (MRow.set hR5 (i := (P ++ A1 ++ T1').length) (by simp) hoy (by omega)) (fun w6 ⟨hR6, hE6⟩ => ?_)
      refine DR.done (by kernel_rfl) ?_
      refine J.at (C := Cls w6 No []) ?_ (Cls.start _ _)
      have hE36 : Ext (fun k => k = g) w3 w6 := (hS.ext.no.trans hE5).trans hE6
      repeat (first | (apply JL.y; (first | (apply Y_move; rfl) | (apply Y_assign; rfl) | (apply Y_sub; rfl; rfl; omega)); rfl) | refine J.region ?_ | refine JL.nil ?_ | refine J.inBlock ?_)
      refine J.intro fun w7 hw7 => ih2 T1'.length (by simp) _ _ w7 ?_ ⟨T1', z :: T2, k - 1, by simp, by omega, rfl, (hE3.trans hE36).trans hw7.ext.no, (hR6.ext0 hw7.ext).eq ?_, rfl⟩
      · exact ⟨rfl, rfl, rfl, trivial⟩
      · rw [swap_mid _ _ _ _ rfl rfl]; simp
end
end Go.Proofs.Ytmkpbbdocndfbaa
/- slices.symMergeCmpFunc of messages: two parts. -/
namespace Go.Proofs.Ytmkpbbdocndfbaa
open Go.RowKit Go.Proofs
attribute [local irreducible] Yl JL J G GL GA GQ DR
section
variable {w : World} {g m c kb : Nat}

set_option maxHeartbeats 8000000 in
theorem symMerge_spec (N : Nat) : ∀ {w : World} {P A B Q : List (Value × Msg)} {a d b : Int}, A.length + B.length ≤ N → MRow w (.slice (some ⟨g, 0, none⟩) m c) (P ++ A ++ B ++ Q) → Ones (P ++ A ++ B ++ Q) → KeyAt kb w → kb ≠ g → St.Srt mkey A → St.Srt mkey B → 0 < A.length → 0 < B.length →
    a = P.length → d = P.length + A.length → b = P.length + A.length + B.length → (P ++ A ++ B ++ Q).length ≤ 1000000 →
    Calls Try.prog 167 #[.slice (some ⟨g, 0, none⟩) m c, .int .i64 a, .int .i64 d, .int .i64 b, cmpV kb] w
      fun e w' => e = .returned (.tuple #[]) ∧ Ext (fun k => k = g) w w' ∧ MRow w' (.slice (some ⟨g, 0, none⟩) m c) (P ++ St.srt mkey (A ++ B) ++ Q) := by
  induction N with
  | zero => intro w P A B Q a d b h1 _ _ _ _ _ _ h2; omega
  | succ N ihN =>
  intro w P A B Q a d b hN hrow hone hk hkb hsA hsBB hA hB ha hd hb hn
  by_cases hx1 : A.length = 1
  · exact symMerge_one hrow hone hk hkb hsA hsBB hA hB ha hd hb hn hx1
  by_cases hx2 : B.length = 1
  · exact symMerge_end hrow hone hk hkb hsA hsBB hA hB ha hd hb hn hx1 hx2
  have hm : m = (P ++ A ++ B ++ Q).length := by obtain ⟨A', c', hv, _⟩ := Row.slice hrow; cases hv; simp
  have hlen : (P ++ A ++ B ++ Q).length = P.length + A.length + B.length + Q.length := by simp [Nat.add_assoc]
  rw [hlen] at hm hn
  have la : ∀ {t : Nat} {x : Value × Msg}, A[t]? = some x → ∀ {q : Nat}, q = (P.length + t) * 5 → Foot (Lds Try.prog 33 ((⟨g, 0, none⟩ : Addr).add q) (.agg (msgC x.1 x.2).toArray)) w (fun k => k = g) := fun h q hq => (hrow.eq (by simp)).lds (at_app (R := B ++ Q) h) hq
  have lb : ∀ {t : Nat} {x : Value × Msg}, B[t]? = some x → ∀ {q : Nat}, q = (P.length + A.length + t) * 5 → Foot (Lds Try.prog 33 ((⟨g, 0, none⟩ : Addr).add q) (.agg (msgC x.1 x.2).toArray)) w (fun k => k = g) := fun h q hq => (hrow.eq (by simp)).lds (at_app (P := P ++ A) (R := Q) h) (by rw [hq]; simp)
  refine Calls.of_G5 Try.func167 rfl Try.ntmps167 rfl ?_
  refine J.at (C := Cls w No []) ?_ (Cls.start _ _)
  repeat (first | (apply JL.y; (first | (apply Y_move; rfl) | (apply Y_eql; rfl; rfl) | (apply Y_sub; rfl; rfl; omega)); rfl) | refine J.seq ?_ | refine J.region ?_ | refine JL.nil ?_)
  refine J.cond_d rfl (fun h1 => by exfalso; omega) (fun h1 => ?_)
  repeat (first | (apply JL.y; (first | (apply Y_move; rfl) | (apply Y_eql; rfl; rfl) | (apply Y_sub; rfl; rfl; omega)); rfl) | refine J.seq ?_ | refine J.region ?_ | refine JL.nil ?_ | refine J.skip ?_)
  refine J.cond_d rfl (fun h2 => by exfalso; omega) (fun h2 => ?_)
  have hA2 : 2 ≤ A.length := by omega
  have hB2 : 2 ≤ B.length := by omega
  repeat (first | refine J.skip ?_)
  refine J.seq ?_
  repeat (first | (apply JL.y; (first | (apply Y_move; rfl) | (apply Y_assign; rfl) | (apply Y_add; rfl; rfl; omega) | (apply Y_half; rfl) | (apply Y_convU; rfl; omega) | (apply Y_convI; rfl; omega)); rfl) | refine J.region ?_ | refine JL.nil ?_)
  refine J.seq ?_
  repeat (first | (apply JL.y; (first | (apply Y_move; rfl) | (apply Y_assign; rfl) | (apply Y_add; rfl; rfl; omega)); rfl) | refine J.region ?_ | refine JL.nil ?_)
  refine J.seq ?_
  repeat (first | (apply JL.y; (apply Y_assign; rfl); rfl) | refine J.region ?_ | refine JL.nil ?_)
  obtain ⟨mu, hmu⟩ : ∃ mu : Nat, mu = (A.length + B.length) / 2 := ⟨_, rfl⟩
  have hmid : (a + b) / 2 = a + mu := by omega
  rw [hmid]
  refine J.seq ?_
  refine J.join (Cls w No []) (fun e' => ∃ (u v : Nat) (i j : Int), u ≤ v ∧ v ≤ A.length ∧ v ≤ mu ∧ mu ≤ u + B.length ∧ (∀ x y, (A.take u).getLast? = some x → (B.drop (mu - u)).head? = some y → mkey x ≤ mkey y) ∧ (∀ y x, (B.take (mu - v)).getLast? = some y → (A.drop v).head? = some x → mkey y < mkey x) ∧ i = a + u ∧ j = a + v ∧ e' = [(0, .slice (some ⟨g, 0, none⟩) m c), (1, .int .i64 a), (2, .int .i64 d), (3, .int .i64 b), (4, cmpV kb), (18, .int .i64 (a + mu)), (19, .int .i64 (a + mu + d)), (20, .int .i64 i), (21, .int .i64 j)]) (fun k' hj => ?_) ?_
  · repeat (first | (apply JL.y; (first | (apply Y_move; rfl) | (apply Y_gtr; rfl; rfl)); rfl) | refine J.seq ?_ | refine J.region ?_ | refine JL.nil ?_)
    refine J.cond_d rfl (fun h3 => ?_) (fun h3 => ?_)
    · repeat (first | (apply JL.y; (first | (apply Y_move; rfl) | (apply Y_assign; rfl) | (apply Y_sub; rfl; rfl; omega)); rfl) | refine J.seq ?_ | refine J.region ?_ | refine JL.nil ?_)
      refine J.weak (hj _ ⟨(a + mu + d - b - a).toNat, mu, a + mu + d - b, a + mu, by omega, by omega, by omega, by omega, fun x y _ h => ?_, fun y x h => ?_, by omega, rfl, rfl⟩) ?_
      · rw [List.drop_eq_nil_of_le (by omega)] at h; cases h
      · rw [show mu - mu = 0 by omega] at h; simp at h
      · exact ⟨rfl, rfl, rfl, rfl, rfl, rfl, rfl, rfl, rfl, trivial⟩
    · repeat (first | (apply JL.y; (first | (apply Y_move; rfl) | (apply Y_assign; rfl)); rfl) | refine J.seq ?_ | refine J.region ?_ | refine JL.nil ?_)
      refine J.weak (hj _ ⟨0, A.length, a, d, by omega, by omega, by omega, by omega, fun x y h => ?_, fun y x _ h => ?_, by omega, by omega, rfl⟩) ?_
      · simp at h
      · rw [List.drop_eq_nil_of_le (by omega)] at h; cases h
      · exact ⟨rfl, rfl, rfl, rfl, rfl, rfl, rfl, rfl, rfl, trivial⟩
  rintro e' ⟨u0, v0, i0, j0, huv0, hvA0, hvm0, hmB0, hlo0, hhi0, hi0, hj0, rfl⟩
  repeat (first | (apply JL.y; (first | (apply Y_move; rfl) | (apply Y_assign; rfl) | (apply Y_sub; rfl; rfl; omega)); rfl) | refine J.seq ?_ | refine J.region ?_ | refine JL.nil ?_ | refine J.block ?_)
  refine J.intro fun wl hwl => G.loop (Inv := fun mm e wl => ∃ (u v : Nat) (i j : Int), u ≤ v ∧ v ≤ A.length ∧ v ≤ mu ∧ mu ≤ u + B.length ∧ (∀ x y, (A.take u).getLast? = some x → (B.drop (mu - u)).head? = some y → mkey x ≤ mkey y) ∧ (∀ y x, (B.take (mu - v)).getLast? = some y → (A.drop v).head? = some x → mkey y < mkey x) ∧ i = a + u ∧ j = a + v ∧ mm = v - u ∧ Ext No w wl ∧ e = [(0, .slice (some ⟨g, 0, none⟩) m c), (1, .int .i64 a), (2, .int .i64 d), (3, .int .i64 b), (4, cmpV kb), (18, .int .i64 (a + mu)), (19, .int .i64 (a + mu + d)), (20, .int .i64 i), (21, .int .i64 j), (22, .int .i64 (a + mu + d - 1))])
    _ _ ⟨u0, v0, i0, j0, huv0, hvA0, hvm0, hmB0, hlo0, hhi0, hi0, hj0, rfl, hwl.ext, rfl⟩ ⟨rfl, rfl, rfl, rfl, rfl, rfl, rfl, rfl, rfl, rfl, trivial⟩ ?_
  rintro mm e w1 ⟨u, v, i, j, huv, hvA, hvm, hmB, hlo, hhi, hi, hj, rfl, hE, rfl⟩ ih
  refine J.at (C := Cls w1 No []) ?_ (Cls.start _ _)
  repeat (first | (apply JL.y; (first | (apply Y_move; rfl) | (apply Y_lss; rfl; rfl)); rfl) | refine J.seq ?_ | refine J.region ?_ | refine JL.nil ?_)
  refine J.cond_d rfl (fun hlt => ?_) (fun hlt => ?_)
  · repeat (first | (apply JL.y; (first | (apply Y_move; rfl) | (apply Y_assign; rfl) | (apply Y_add; rfl; rfl; omega) | (apply Y_half; rfl) | (apply Y_convU; rfl; omega) | (apply Y_convI; rfl; omega)); rfl) | refine J.seq ?_ | refine J.region ?_ | refine JL.nil ?_ | refine J.skip ?_ | refine J.block ?_)
    obtain ⟨t, ht⟩ : ∃ t : Nat, t = (u + v) / 2 := ⟨_, rfl⟩
    have hct : (i + j) / 2 = a + t := by omega
    rw [hct]
    obtain ⟨x, hx⟩ : ∃ x, A[t]? = some x := ⟨_, List.getElem?_eq_getElem (by omega)⟩
    obtain ⟨y, hy⟩ : ∃ y, B[mu - 1 - t]? = some y := ⟨_, List.getElem?_eq_getElem (by omega)⟩
    have hox : x.1.oneCell' = true := hone x (by simp [List.mem_of_getElem? hx])
    have hoy : y.1.oneCell' = true := hone y (by simp [List.mem_of_getElem? hy])
    have lx := la hx (q := (a + t : Int).toNat * 5) (by omega)
    have ly := lb hy (q := (a + mu + d - 1 - (a + t) : Int).toNat * 5) (by omega)
    refine J.draw (S := Cls _ _ _) [] #[false, false, false, false, false, false, false, false, false, false, false, false, false, false] rfl rfl (fun w hw => hw.drew) (fun w hS => ?_)
    (apply DR.pure 0 #[true, false, false, false, false, false, false, false, false, false, false, false, false, false]; rfl; kernel_rfl; (apply Y_move; rfl); rfl)
    (apply DR.pure 1 #[true, true, false, false, false, false, false, false, false, false, false, false, false, false]; rfl; kernel_rfl; (apply Y_move; rfl); rfl)
    (apply DR.pure 2 #[true, true, true, false, false, false, false, false, false, false, false, false, false, false]; rfl; kernel_rfl; (apply Y_move; rfl); rfl)
    (apply DR.pure 3 #[true, true, true, true, false, false, false, false, false, false, false, false, false, false]; rfl; kernel_rfl; (apply Y_move; rfl); rfl)
    (apply DR.pure 4 #[true, true, true, true, true, false, false, false, false, false, false, false, false, false]; rfl; kernel_rfl; (apply Y_sub; rfl; rfl; omega); rfl)
    (apply DR.pure 5 #[true, true, true, true, true, true, false, false, false, false, false, false, false, false]; rfl; kernel_rfl; (apply Y_indexAddr; rfl; rfl; omega); rfl)
    (apply DR.take 6 #[true, true, true, true, true, true, true, false, false, false, false, false, false, false]; rfl; kernel_rfl; exact Y_loadP rfl fun w hw => (ly.ext0 hE).at_ hw.ext fun _ _ _ h => h; rfl; exact hS)
    (apply DR.pure 7 #[true, true, true, true, true, true, true, true, false, false, false, false, false, false]; rfl; kernel_rfl; (apply Y_move; rfl); rfl)
    (apply DR.pure 8 #[true, true, true, true, true, true, true, true, true, false, false, false, false, false]; rfl; kernel_rfl; (apply Y_move; rfl); rfl)
    (apply DR.pure 9 #[true, true, true, true, true, true, true, true, true, true, false, false, false, false]; rfl; kernel_rfl; (apply Y_indexAddr; rfl; rfl; omega); rfl)
    (apply DR.take 10 #[true, true, true, true, true, true, true, true, true, true, true, false, false, false]; rfl; kernel_rfl; exact Y_loadP rfl fun w hw => (lx.ext0 hE).at_ hw.ext fun _ _ _ h => h; rfl; exact hS)
    apply DR.callqC (cap := [.pointer (some ⟨kb, 0, none⟩)]) 11 #[true, true, true, true, true, true, true, true, true, true, true, true, false, false]; rfl; kernel_rfl; rfl; rfl; exact inferInstance; rfl; rfl; exact cmp_spec ((hk.ext hE id).ext hS.ext id) y x hoy hox; (intro w' hw'; exact hS.ext0 hw'); intro w9 hE9 hS
    (apply DR.pure 12 #[true, true, true, true, true, true, true, true, true, true, true, true, true, false]; rfl; kernel_rfl; (apply Y_lss; rfl; rfl); rfl)
    (apply DR.pure 13 #[true, true, true, true, true, true, true, true, true, true, true, true, true, true]; rfl; kernel_rfl; (first | (apply Y_not_d; rfl) | (apply Y_not; rfl)); rfl)
    refine DR.done (by kernel_rfl) ?_
    refine J.at (C := Cls _ _ _) ?_ hS
    refine J.cond_d rfl (fun hc => ?_) (fun hc => ?_)
    · have hlt' : mkey x ≤ mkey y := Int.not_lt.1 fun h => hc ((cmpI_neg _ _).2 h)
      repeat (first | (apply JL.y; (first | (apply Y_move; rfl) | (apply Y_assign; rfl) | (apply Y_add; rfl; rfl; omega)); rfl) | refine J.region ?_ | refine JL.nil ?_ | refine J.inBlock ?_)
      refine J.intro fun w2 hw2 => ih (v - (t + 1)) (by omega) _ _ w2 ?_ ⟨t + 1, v, a + t + 1, j, by omega, by omega, by omega, by omega, fun x' y' hx' hy' => ?_, hhi, by omega, by omega, rfl, hE.trans hw2.ext, rfl⟩
      · exact ⟨rfl, rfl, rfl, rfl, rfl, rfl, rfl, rfl, rfl, rfl, trivial⟩
      · rw [St.last_take hx] at hx'; cases hx'
        rw [St.head_drop, show mu - (t + 1) = mu - 1 - t by omega, hy] at hy'; cases hy'
        exact hlt'
    · have hlt' : mkey y < mkey x := (cmpI_neg _ _).1 (Classical.not_not.1 hc)
      repeat (first | (apply JL.y; (first | (apply Y_move; rfl) | (apply Y_assign; rfl)); rfl) | refine J.region ?_ | refine JL.nil ?_ | refine J.inBlock ?_)
      refine J.intro fun w2 hw2 => ih (t - u) (by omega) _ _ w2 ?_ ⟨u, t, i, a + t, by omega, by omega, by omega, by omega, hlo, fun y' x' hy' hx' => ?_, by omega, by omega, rfl, hE.trans hw2.ext, rfl⟩
      · exact ⟨rfl, rfl, rfl, rfl, rfl, rfl, rfl, rfl, rfl, rfl, trivial⟩
      · rw [St.head_drop, hx] at hx'; cases hx'
        rw [show mu - t = mu - 1 - t + 1 by omega, St.last_take hy] at hy'; cases hy'
        exact hlt'
  have huv' : v = u := by omega
  subst huv'
  have hA12 : A.take v ++ A.drop v = A := List.take_append_drop v A
  have hB12 : B.take (mu - v) ++ B.drop (mu - v) = B := List.take_append_drop _ B
  have hsp := St.merge_split (key := mkey) (A1 := A.take v) (A2 := A.drop v) (B1 := B.take (mu - v)) (B2 := B.drop (mu - v)) (by rw [hA12]; exact hsA) (by rw [hB12]; exact hsBB) hlo hhi
  rw [hA12, hB12] at hsp
  have sA12 := hsA
  have sB12 := hsBB
  rw [← hA12] at sA12
  rw [← hB12] at sB12
  obtain ⟨sA1, sA2, _⟩ := St.Srt.parts sA12
  obtain ⟨sB1, sB2, _⟩ := St.Srt.parts sB12
  have hA1l : (A.take v).length = v := by rw [List.length_take]; omega
  have hA2l : (A.drop v).length = A.length - v := by rw [List.length_drop]
  have hB1l : (B.take (mu - v)).length = mu - v := by rw [List.length_take]; omega
  have hB2l : (B.drop (mu - v)).length = B.length - (mu - v) := by rw [List.length_drop]
  have hlenAB : (P ++ A ++ B ++ Q).length = P.length + A.length + B.length + Q.length := hlen
  clear hlo hhi la lb ih hlo0 hhi0
  generalize A.take v = A1 at *
  generalize A.drop v = A2 at *
  generalize B.take (mu - v) = B1 at *
  generalize B.drop (mu - v) = B2 at *
  subst hA12
  subst hB12
  simp only [List.length_append] at hA1l hA2l hB1l hB2l hN hA hB hd hb hn hm hA2 hB2 hmu hvA hmB
  have hone2 : Ones (P ++ A1 ++ B1 ++ (A2 ++ B2 ++ Q)) := hone.of fun p hp => by grind
  repeat (first | (apply J.exit; rfl))
  refine J.seq ?_
  repeat (first | (apply JL.y; (first | (apply Y_move; rfl) | (apply Y_assign; rfl) | (apply Y_sub; rfl; rfl; omega)); rfl) | refine J.region ?_ | refine JL.nil ?_)
  refine J.seq ?_
  refine J.join (fun wx => Ext (fun k => k = g) w wx ∧ MRow wx (.slice (some ⟨g, 0, none⟩) m c) (P ++ A1 ++ B1 ++ (A2 ++ B2 ++ Q))) (fun e' => e' = [(0, .slice (some ⟨g, 0, none⟩) m c), (1, .int .i64 a), (3, .int .i64 b), (4, cmpV kb), (18, .int .i64 (a + mu)), (20, .int .i64 i), (24, .int .i64 (a + mu + d - i))]) (fun k' hjn => ?_) ?_
  · repeat (first | (apply JL.y; (first | (apply Y_move; rfl) | (apply Y_lss; rfl; rfl)); rfl) | refine J.seq ?_ | refine J.region ?_)
    by_cases c1 : i < d
    · rw [decide_eq_true c1]
      repeat (first | (apply JL.y; (first | (apply Y_move; rfl) | (apply Y_lss; rfl; rfl) | (apply Y_pick_t; rfl; rfl)); rfl) | refine JL.nil ?_ | (apply JL.guard_yes; rfl; rfl; rfl))
      refine J.cond_d rfl (fun c2 => ?_) (fun c2 => ?_)
      · repeat (first | (apply JL.y; (apply Y_move; rfl); rfl) | refine J.region ?_)
        refine JL.call (fun w2 v w3 => v = .tuple #[] ∧ Ext (fun k => k = g) w2 w3 ∧ MRow w3 (.slice (some ⟨g, 0, none⟩) m c) ((P ++ A1) ++ B1 ++ A2 ++ (B2 ++ Q))) rfl rfl (fun w2 hw2 => (rotate_spec (P := P ++ A1) (X := A2) (Y := B1) (Q := B2 ++ Q) ((hrow.ext0 (hE.trans hw2.ext)).eq (by simp)) (hone.of fun p hp => by grind) (by omega) (by omega) (by simp; omega) (by simp; omega) (by simp; omega) (by simp; omega)).mono fun e w' h => ⟨_, h.1, rfl, h.2⟩) fun w2 r w3 hw2 ⟨hr, hE3, hR3⟩ => ?_
        subst hr
        refine GL.of_JL (C := Cls w3 No []) (Cls.start _ _) ?_
        repeat (first | refine JL.nil ?_)
        exact J.imp (J.weak (hjn _ rfl) ⟨rfl, rfl, rfl, rfl, rfl, rfl, rfl, trivial⟩) fun wx hx => ⟨((hE.trans hw2.ext).no.trans hE3).trans hx.ext.no, (hR3.ext0 hx.ext).eq (by simp)⟩
      · have : B1 = [] := List.eq_nil_of_length_eq_zero (by omega)
        subst this
        repeat (first | refine J.skip ?_)
        exact J.imp (J.weak (hjn _ rfl) ⟨rfl, rfl, rfl, rfl, rfl, rfl, rfl, trivial⟩) fun wx hx => ⟨(hE.trans hx.ext).no, (hrow.ext0 (hE.trans hx.ext)).eq (by simp)⟩
    · rw [decide_eq_false c1]
      have : A2 = [] := List.eq_nil_of_length_eq_zero (by omega)
      subst this
      repeat (first | (apply JL.y; (apply Y_pick_f; rfl; rfl); rfl) | refine JL.nil ?_ | (apply JL.guard_no; rfl; rfl; rfl; rfl; rfl))
      refine J.cond_f rfl ?_
      repeat (first | refine J.skip ?_)
      exact J.imp (J.weak (hjn _ rfl) ⟨rfl, rfl, rfl, rfl, rfl, rfl, rfl, trivial⟩) fun wx hx => ⟨(hE.trans hx.ext).no, (hrow.ext0 (hE.trans hx.ext)).eq (by simp)⟩
  rintro e' rfl
  refine J.intro fun w2 ⟨hE2, hR2⟩ => J.at (C := Cls w2 No []) ?_ (Cls.start _ _)
  refine J.seq ?_
  refine J.join (fun wx => Ext (fun k => k = g) w wx ∧ MRow wx (.slice (some ⟨g, 0, none⟩) m c) ((P ++ St.srt mkey (A1 ++ B1)) ++ A2 ++ B2 ++ Q)) (fun e' => e' = [(0, .slice (some ⟨g, 0, none⟩) m c), (3, .int .i64 b), (4, cmpV kb), (18, .int .i64 (a + mu)), (24, .int .i64 (a + mu + d - i))]) (fun k' hjn => ?_) ?_
  · repeat (first | (apply JL.y; (first | (apply Y_move; rfl) | (apply Y_lss; rfl; rfl)); rfl) | refine J.seq ?_ | refine J.region ?_)
    by_cases c1 : a < i
    · rw [decide_eq_true c1]
      repeat (first | (apply JL.y; (first | (apply Y_move; rfl) | (apply Y_lss; rfl; rfl) | (apply Y_pick_t; rfl; rfl)); rfl) | refine JL.nil ?_ | (apply JL.guard_yes; rfl; rfl; rfl))
      refine J.cond_d rfl (fun c2 => ?_) (fun c2 => ?_)
      · repeat (first | (apply JL.y; (apply Y_move; rfl); rfl) | refine J.region ?_)
        refine JL.call (fun w3 v w4 => v = .tuple #[] ∧ Ext (fun k => k = g) w3 w4 ∧ MRow w4 (.slice (some ⟨g, 0, none⟩) m c) (P ++ St.srt mkey (A1 ++ B1) ++ (A2 ++ B2 ++ Q))) rfl rfl (fun w3 hw3 => (ihN (P := P) (A := A1) (B := B1) (Q := A2 ++ B2 ++ Q) (by omega) (hR2.ext0 hw3.ext) hone2 ((hk.ext hE2 hkb).ext hw3.ext id) hkb sA1 sB1 (by omega) (by omega) ha (by omega) (by omega) (by simp; omega)).mono fun e w' h => ⟨_, h.1, rfl, h.2⟩) fun w3 r w4 hw3 ⟨hr, hE4, hR4⟩ => ?_
        subst hr
        refine GL.of_JL (C := Cls w4 No []) (Cls.start _ _) ?_
        repeat (first | refine JL.nil ?_)
        exact J.imp (J.weak (hjn _ rfl) ⟨rfl, rfl, rfl, rfl, rfl, trivial⟩) fun wx hx => ⟨((hE2.trans hw3.ext.no).trans hE4).trans hx.ext.no, (hR4.ext0 hx.ext).eq (by simp)⟩
      · have : B1 = [] := List.eq_nil_of_length_eq_zero (by omega)
        subst this
        repeat (first | refine J.skip ?_)
        exact J.imp (J.weak (hjn _ rfl) ⟨rfl, rfl, rfl, rfl, rfl, trivial⟩) fun wx hx => ⟨hE2.trans hx.ext.no, (hR2.ext0 hx.ext).eq (by rw [List.append_nil A1, St.srt_id sA1]; simp)⟩
    · rw [decide_eq_false c1]
      have : A1 = [] := List.eq_nil_of_length_eq_zero (by omega)
      subst this
      repeat (first | (apply JL.y; (apply Y_pick_f; rfl; rfl); rfl) | refine JL.nil ?_ | (apply JL.guard_no; rfl; rfl; rfl; rfl; rfl))
      refine J.cond_f rfl ?_
      repeat (first | refine J.skip ?_)
      exact J.imp (J.weak (hjn _ rfl) ⟨rfl, rfl, rfl, rfl, rfl, trivial⟩) fun wx hx => ⟨hE2.trans hx.ext.no, (hR2.ext0 hx.ext).eq (by rw [List.nil_append B1, St.srt_id sB1]; simp)⟩
  rintro e' rfl
  refine J.intro fun w5 ⟨hE5, hR5⟩ => J.at (C := Cls w5 No []) ?_ (Cls.start _ _)
  have hone3 : Ones ((P ++ St.srt mkey (A1 ++ B1)) ++ A2 ++ B2 ++ Q) := hone.of fun p hp => by
    simp only [List.mem_append, St.srt_mem] at hp; grind
  have hPl : (P ++ St.srt mkey (A1 ++ B1)).length = P.length + A1.length + B1.length := by simp [St.srt_len, Nat.add_assoc]
  repeat (first | (apply JL.y; (first | (apply Y_move; rfl) | (apply Y_lss; rfl; rfl)); rfl) | refine J.seq ?_ | refine J.region ?_)
  by_cases c1 : a + mu < a + mu + d - i
  · rw [decide_eq_true c1]
    repeat (first | (apply JL.y; (first | (apply Y_move; rfl) | (apply Y_lss; rfl; rfl) | (apply Y_pick_t; rfl; rfl)); rfl) | refine JL.nil ?_ | (apply JL.guard_yes; rfl; rfl; rfl))
    refine J.cond_d rfl (fun c2 => ?_) (fun c2 => ?_)
    · repeat (first | (apply JL.y; (apply Y_move; rfl); rfl) | refine J.region ?_)
      refine JL.call (fun w3 v w4 => v = .tuple #[] ∧ Ext (fun k => k = g) w3 w4 ∧ MRow w4 (.slice (some ⟨g, 0, none⟩) m c) ((P ++ St.srt mkey (A1 ++ B1)) ++ St.srt mkey (A2 ++ B2) ++ Q)) rfl rfl (fun w3 hw3 => (ihN (P := P ++ St.srt mkey (A1 ++ B1)) (A := A2) (B := B2) (Q := Q) (by omega) (hR5.ext0 hw3.ext) hone3 ((hk.ext hE5 hkb).ext hw3.ext id) hkb sA2 sB2 (by omega) (by omega) (by omega) (by omega) (by omega) (by rw [List.length_append, List.length_append, List.length_append, hPl]; omega)).mono fun e w' h => ⟨_, h.1, rfl, h.2⟩) fun w3 r w4 hw3 ⟨hr, hE4, hR4⟩ => ?_
      subst hr
      refine GL.of_JL (C := Cls w4 No []) (Cls.start _ _) ?_
      repeat (first | refine JL.nil ?_)
      exact J.end0 Try.func167 Try.results167 fun w' hw => ⟨rfl, ((hE5.trans hw3.ext.no).trans hE4).trans hw.ext.no, (hR4.ext0 hw.ext).eq (by rw [← hsp]; simp)⟩
    · have : B2 = [] := List.eq_nil_of_length_eq_zero (by omega)
      subst this
      repeat (first | refine J.skip ?_)
      exact J.end0 Try.func167 Try.results167 fun w' hw => ⟨rfl, hE5.trans hw.ext.no, (hR5.ext0 hw.ext).eq (by rw [← hsp, List.append_nil A2, St.srt_id sA2]; simp)⟩
  · rw [decide_eq_false c1]
    have : A2 = [] := List.eq_nil_of_length_eq_zero (by omega)
    subst this
    repeat (first | (apply JL.y; (apply Y_pick_f; rfl; rfl); rfl) | refine JL.nil ?_ | (apply JL.guard_no; rfl; rfl; rfl; rfl; rfl))
    refine J.cond_f rfl ?_
    repeat (first | refine J.skip ?_)
    exact J.end0 Try.func167 Try.results167 fun w' hw => ⟨rfl, hE5.trans hw.ext.no, (hR5.ext0 hw.ext).eq (by rw [← hsp, List.nil_append B2, St.srt_id sB2]; simp)⟩
end
end Go.Proofs.Ytmkpbbdocndfbaa
/- lane.sorted of messages. -/
namespace Go.Proofs.Ytmkpbbdocndfbaa
open Go.RowKit Go.Proofs
attribute [local irreducible] Yl JL J G GL GA GQ DR

def prs (xs : List (List Value × Msg)) : List (Value × Msg) := xs.map fun z => (z.1.headD (.slice none 0 0), z.2)
theorem prs_eq {xs : List (List Value × Msg)} (h : ∀ z ∈ xs, ∃ ws, z.1 = msgC ws z.2 ∧ ws.oneCell' = true) : (prs xs).map (fun p => (mch p, p.2)) = xs ∧ Ones (prs xs) := by
  induction xs with
  | nil => exact ⟨rfl, fun p hp => by cases hp⟩
  | cons z xs ih =>
    obtain ⟨h1, h2⟩ := ih fun z hz => h z (.tail _ hz)
    obtain ⟨ws, hz, ho⟩ := h z (.head _)
    refine ⟨?_, fun p hp => ?_⟩
    · show (mch (z.1.headD _, z.2), z.2) :: (prs xs).map (fun p => (mch p, p.2)) = _
      rw [h1]
      obtain ⟨a, b⟩ := z
      have hz' : a = msgC ws b := hz
      subst hz'; rfl
    · rcases List.mem_cons.1 hp with rfl | hp
      · show (z.1.headD _).oneCell' = true
        rw [hz]; exact ho
      · exact h2 p hp
theorem prs_row (xs : List (List Value × Msg)) (h : (prs xs).map (fun p => (mch p, p.2)) = xs) : (prs xs).map mch = xs.map (·.1) := by
  conv => rhs; rw [← h]
  simp [Function.comp_def]
theorem rrow_news {w : World} {sz : Nat} {ad : Addr} {m c : Nat} {chs : List (List Value)} (h : RRow w sz (.slice (some ad) m c) chs) (hsz : 0 < sz) : ∀ j u, chs.flatten[j]? = some u → w.cell? (ad.add j) = some u := fun j u hu => by
  have hl := flatten_len chs sz h.size
  have hj : j < chs.length * sz := by rw [← hl]; exact (List.getElem?_eq_some_iff.1 hu).1
  have hi : j / sz < chs.length := Nat.div_lt_of_lt_mul (by rw [Nat.mul_comm]; exact hj)
  have hch : chs[j / sz]? = some chs[j / sz] := List.getElem?_eq_getElem hi
  have hr : j % sz < chs[j / sz].length := by rw [h.size _ (List.getElem_mem hi)]; exact Nat.mod_lt _ hsz
  have hv : chs[j / sz][j % sz]? = some chs[j / sz][j % sz] := List.getElem?_eq_getElem hr
  have h1 := flatten_at chs sz h.size _ _ _ _ hch hv
  have hjj : j / sz * sz + j % sz = j := by rw [Nat.mul_comm]; exact Nat.div_add_mod j sz
  rw [hjj, hu] at h1
  obtain ⟨ad', e1, h2⟩ := h.cell hch hv
  cases e1
  rw [hjj] at h2
  rw [h2, ← h1]
def skey (z : List Value × Msg) : Int := z.2.lane

set_option maxHeartbeats 2000000 in
/-- slices.stableCmpFunc, of fewer than forty. -/
theorem stable_spec {w : World} {kb g m c : Nat} {L : List (Value × Msg)} (hrow : MRow w (.slice (some ⟨g, 0, none⟩) m c) L) (hone : Ones L) (hk : KeyAt kb w) (hkb : kb ≠ g) (hn : L.length < 40) {s : Int} (hs : s = L.length) :
    Calls Try.prog 160 #[.slice (some ⟨g, 0, none⟩) m c, .int .i64 s, cmpV kb] w
      fun e w' => e = .returned (.tuple #[]) ∧ Ext (fun k => k = g) w w' ∧ MRow w' (.slice (some ⟨g, 0, none⟩) m c) (St.srt mkey L) := by
  refine Calls.of_G3 Try.func160 rfl Try.ntmps160 rfl ?_
  refine J.at (C := Cls w No []) ?_ (Cls.start _ _)
  repeat (first | (apply JL.y; (first | (apply Y_move; rfl) | (apply Y_assign; rfl)); rfl) | refine J.seq ?_ | refine J.region ?_ | refine JL.nil ?_ | refine J.block ?_)
  refine J.loop1 ?_
  repeat (first | (apply JL.y; (first | (apply Y_move; rfl) | (apply Y_leq; rfl; rfl)); rfl) | refine J.seq ?_ | refine J.region ?_ | refine JL.nil ?_)
  refine J.cond_d rfl (fun h20 => ?_) (fun h20 => ?_)
  case refine_2 =>
    repeat (first | (apply JL.y; (apply Y_move; rfl); rfl) | refine J.seq ?_ | refine J.region ?_ | (apply J.exit; rfl))
    refine JL.call (fun w2 v w3 => v = .tuple #[] ∧ Ext (fun k => k = g) w2 w3 ∧ MRow w3 (.slice (some ⟨g, 0, none⟩) m c) ([] ++ St.srt mkey L ++ [])) rfl rfl (fun w2 hw2 => (insSort_spec (A := []) (S := L) (B := []) ((hrow.ext0 hw2.ext).eq (by simp)) (hone.of fun p hp => by simpa using hp) (hk.ext hw2.ext id) hkb rfl (by simp; omega) (by simp; omega)).mono fun e w' h => ⟨_, h.1, rfl, h.2⟩) fun w2 r w3 hw2 ⟨hr, hE3, hR3⟩ => ?_
    subst hr
    refine GL.of_JL (C := Cls w3 No []) (Cls.start _ _) ?_
    repeat (first | refine JL.nil ?_ | refine J.block ?_)
    refine J.loop1 ?_
    repeat (first | (apply JL.y; (first | (apply Y_move; rfl) | (apply Y_lss; rfl; rfl)); rfl) | refine J.seq ?_ | refine J.region ?_ | refine JL.nil ?_)
    refine J.cond_d rfl (fun h => by exfalso; omega) (fun h => ?_)
    repeat (first | (apply J.exit; rfl))
    exact J.end0 Try.func160 Try.results160 fun w' hw => ⟨rfl, (hw2.ext.no.trans hE3).trans hw.ext.no, (hR3.ext0 hw.ext).eq (by simp)⟩
  obtain ⟨S1, S2, rfl, hl1⟩ : ∃ S1 S2, L = S1 ++ S2 ∧ S1.length = 20 := ⟨L.take 20, L.drop 20, by simp, by rw [List.length_take]; omega⟩
  have hSS : (S1 ++ S2).length = 20 + S2.length := by simp [hl1]
  repeat (first | (apply JL.y; (apply Y_move; rfl); rfl) | refine J.seq ?_ | refine J.region ?_ | refine J.skip ?_ | refine J.block ?_)
  refine JL.call (fun w2 v w3 => v = .tuple #[] ∧ Ext (fun k => k = g) w2 w3 ∧ MRow w3 (.slice (some ⟨g, 0, none⟩) m c) ([] ++ St.srt mkey S1 ++ S2)) rfl rfl (fun w2 hw2 => (insSort_spec (A := []) (S := S1) (B := S2) ((hrow.ext0 hw2.ext).eq (by simp)) (hone.of fun p hp => by simpa using hp) (hk.ext hw2.ext id) hkb rfl (by simp; omega) (by simp; omega)).mono fun e w' h => ⟨_, h.1, rfl, h.2⟩) fun w2 r w3 hw2 ⟨hr, hE3, hR3⟩ => ?_
  subst hr
  refine GL.of_JL (C := Cls w3 No []) (Cls.start _ _) ?_
  have hE03 : Ext (fun k => k = g) w w3 := hw2.ext.no.trans hE3
  have hone2 : Ones (St.srt mkey S1 ++ S2 ++ []) := hone.of fun p hp => by
    simp only [List.mem_append, St.srt_mem, List.not_mem_nil, or_false] at hp ⊢; exact hp
  have hs1 : (St.srt mkey S1).length = 20 := by rw [St.srt_len, hl1]
  repeat (first | (apply JL.y; (first | (apply Y_move; rfl) | (apply Y_assign; rfl) | (apply Y_add; rfl; rfl; omega)); rfl) | refine J.seq ?_ | refine J.region ?_ | refine JL.nil ?_ | refine J.inBlock ?_)
  refine J.inLoop1 ?_
  repeat (first | (apply JL.y; (first | (apply Y_move; rfl) | (apply Y_leq; rfl; rfl)); rfl) | refine J.seq ?_ | refine J.region ?_ | refine JL.nil ?_)
  refine J.cond_d rfl (fun h => by exfalso; omega) (fun h => ?_)
  repeat (first | (apply JL.y; (apply Y_move; rfl); rfl) | refine J.seq ?_ | refine J.region ?_ | (apply J.exit; rfl))
  refine JL.call (fun w4 v w5 => v = .tuple #[] ∧ Ext (fun k => k = g) w4 w5 ∧ MRow w5 (.slice (some ⟨g, 0, none⟩) m c) (St.srt mkey S1 ++ St.srt mkey S2 ++ [])) rfl rfl (fun w4 hw4 => (insSort_spec (A := St.srt mkey S1) (S := S2) (B := []) ((hR3.ext0 hw4.ext).eq (by simp)) hone2 ((hk.ext hE03 hkb).ext hw4.ext id) hkb (by omega) (by omega) (by simp; omega)).mono fun e w' h => ⟨_, h.1, rfl, h.2⟩) fun w4 r w5 hw4 ⟨hr, hE5, hR5⟩ => ?_
  subst hr
  refine GL.of_JL (C := Cls w5 No []) (Cls.start _ _) ?_
  have hE05 : Ext (fun k => k = g) w w5 := (hE03.trans hw4.ext.no).trans hE5
  have hone3 : Ones ([] ++ St.srt mkey S1 ++ St.srt mkey S2 ++ []) := hone.of fun p hp => by
    simp only [List.mem_append, St.srt_mem, List.not_mem_nil, or_false, false_or] at hp ⊢; exact hp
  have hs2 : (St.srt mkey S2).length = S2.length := St.srt_len _
  repeat (first | refine JL.nil ?_ | refine J.block ?_)
  refine J.loop1 ?_
  repeat (first | (apply JL.y; (first | (apply Y_move; rfl) | (apply Y_lss; rfl; rfl)); rfl) | refine J.seq ?_ | refine J.region ?_ | refine JL.nil ?_)
  refine J.cond_d rfl (fun h21 => ?_) (fun h21 => ?_)
  case refine_2 =>
    have : S2 = [] := List.eq_nil_of_length_eq_zero (by omega)
    subst this
    repeat (first | (apply J.exit; rfl))
    exact J.end0 Try.func160 Try.results160 fun w' hw => ⟨rfl, hE05.trans hw.ext.no, (hR5.ext0 hw.ext).eq (by simp [St.srt])⟩
  repeat (first | (apply JL.y; (apply Y_move; rfl); rfl) | refine J.seq ?_ | refine J.region ?_ | refine J.skip ?_ | refine J.block ?_)
  apply JL.y (Y_mul rfl rfl (by omega)) rfl
  repeat (first | (apply JL.y; (apply Y_assign; rfl); rfl) | refine J.seq ?_ | refine JL.nil ?_ | refine J.block ?_)
  refine J.loop1 ?_
  repeat (first | (apply JL.y; (first | (apply Y_move; rfl) | (apply Y_leq; rfl; rfl)); rfl) | refine J.seq ?_ | refine J.region ?_ | refine JL.nil ?_)
  refine J.cond_d rfl (fun h => by exfalso; omega) (fun h => ?_)
  repeat (first | (apply JL.y; (first | (apply Y_move; rfl) | (apply Y_assign; rfl) | (apply Y_lss; rfl; rfl) | (apply Y_add; rfl; rfl; omega)); rfl) | refine J.seq ?_ | refine J.region ?_ | refine JL.nil ?_ | (apply J.exit; rfl))
  refine J.cond_d rfl (fun h => ?_) (fun h => by exfalso; omega)
  repeat (first | (apply JL.y; (apply Y_move; rfl); rfl) | refine J.region ?_)
  refine JL.call (fun w6 v w7 => v = .tuple #[] ∧ Ext (fun k => k = g) w6 w7 ∧ MRow w7 (.slice (some ⟨g, 0, none⟩) m c) ([] ++ St.srt mkey (St.srt mkey S1 ++ St.srt mkey S2) ++ [])) rfl rfl (fun w6 hw6 => (symMerge_spec _ (P := []) (A := St.srt mkey S1) (B := St.srt mkey S2) (Q := []) (Nat.le_refl _) ((hR5.ext0 hw6.ext).eq (by simp)) hone3 ((hk.ext hE05 hkb).ext hw6.ext id) hkb (St.srt_srt _) (St.srt_srt _) (by omega) (by omega) rfl (by simp; omega) (by simp; omega) (by simp; omega)).mono fun e w' h => ⟨_, h.1, rfl, h.2⟩) fun w6 r w7 hw6 ⟨hr, hE7, hR7⟩ => ?_
  subst hr
  refine GL.of_JL (C := Cls w7 No []) (Cls.start _ _) ?_
  repeat (first | (apply JL.y; (apply Y_move; rfl); rfl) | refine J.region ?_ | refine JL.nil ?_)
  apply JL.y (Y_mul rfl rfl (by omega)) rfl
  repeat (first | (apply JL.y; (apply Y_assign; rfl); rfl) | refine JL.nil ?_ | refine J.inBlock ?_)
  refine J.inLoop1 ?_
  repeat (first | (apply JL.y; (first | (apply Y_move; rfl) | (apply Y_lss; rfl; rfl)); rfl) | refine J.seq ?_ | refine J.region ?_ | refine JL.nil ?_)
  refine J.cond_d rfl (fun h => by exfalso; omega) (fun h => ?_)
  repeat (first | (apply J.exit; rfl))
  refine J.end0 Try.func160 Try.results160 fun w' hw => ⟨rfl, ((hE05.trans hw6.ext.no).trans hE7).trans hw.ext.no, (hR7.ext0 hw.ext).eq ?_⟩
  simp only [List.nil_append, List.append_nil]
  exact St.srt_of (St.srt_srt _) (St.srt_stb _)
/-- slices.SortStableFunc. -/
theorem sortStable_spec {w : World} {kb g m c : Nat} {L : List (Value × Msg)} (hrow : MRow w (.slice (some ⟨g, 0, none⟩) m c) L) (hone : Ones L) (hk : KeyAt kb w) (hkb : kb ≠ g) (hn : L.length < 40) :
    Calls Try.prog 145 #[.slice (some ⟨g, 0, none⟩) m c, cmpV kb] w
      fun e w' => e = .returned (.tuple #[]) ∧ Ext (fun k => k = g) w w' ∧ MRow w' (.slice (some ⟨g, 0, none⟩) m c) (St.srt mkey L) := by
  have hm : m = L.length := by obtain ⟨A', c', hv, _⟩ := Row.slice hrow; cases hv; simp
  refine Calls.of_G2 Try.func145 rfl Try.ntmps145 rfl ?_
  refine J.at (C := Cls w No []) ?_ (Cls.start _ _)
  repeat (first | (apply JL.y; (first | (apply Y_move; rfl) | (apply Y_len; rfl)); rfl) | refine J.region ?_)
  refine JL.call (fun w2 v w3 => v = .tuple #[] ∧ Ext (fun k => k = g) w2 w3 ∧ MRow w3 (.slice (some ⟨g, 0, none⟩) m c) (St.srt mkey L)) rfl rfl (fun w2 hw2 => (stable_spec (hrow.ext0 hw2.ext) hone (hk.ext hw2.ext id) hkb hn (by omega)).mono fun e w' h => ⟨_, h.1, rfl, h.2⟩) fun w2 r w3 hw2 ⟨hr, hE3, hR3⟩ => ?_
  subst hr
  refine GL.of_JL (C := Cls w3 No []) (Cls.start _ _) ?_
  repeat (first | refine JL.nil ?_)
  exact J.end0 Try.func145 Try.results145 fun w' hw => ⟨rfl, (hw2.ext.no.trans hE3).trans hw.ext.no, hR3.ext0 hw.ext⟩

/-- .. of none. -/
theorem insSort_nil {w : World} {A : Option Addr} {c : Nat} {fv : Value} :
    Calls Try.prog 166 #[.slice A 0 c, .int .i64 0, .int .i64 0, fv] w fun e w' => e = .returned (.tuple #[]) ∧ Ext No w w' := by
  refine Calls.of_G4 Try.func166 rfl Try.ntmps166 rfl ?_
  refine J.at (C := Cls w No []) ?_ (Cls.start _ _)
  repeat (first | (apply JL.y; (first | (apply Y_move; rfl) | (apply Y_assign; rfl) | (apply Y_add; rfl; rfl; omega)); rfl) | refine J.seq ?_ | refine J.region ?_ | refine JL.nil ?_ | refine J.block ?_)
  refine J.loop1 ?_
  repeat (first | (apply JL.y; (first | (apply Y_move; rfl) | (apply Y_lss; rfl; rfl)); rfl) | refine J.seq ?_ | refine J.region ?_ | refine JL.nil ?_)
  refine J.cond_d rfl (fun h => by exfalso; omega) (fun h => ?_)
  repeat (first | (apply J.exit; rfl))
  exact J.end0 Try.func166 Try.results166 fun w' hw => ⟨rfl, hw.ext⟩
theorem stable_nil {w : World} {A : Option Addr} {c : Nat} {fv : Value} :
    Calls Try.prog 160 #[.slice A 0 c, .int .i64 0, fv] w fun e w' => e = .returned (.tuple #[]) ∧ Ext No w w' := by
  refine Calls.of_G3 Try.func160 rfl Try.ntmps160 rfl ?_
  refine J.at (C := Cls w No []) ?_ (Cls.start _ _)
  repeat (first | (apply JL.y; (first | (apply Y_move; rfl) | (apply Y_assign; rfl)); rfl) | refine J.seq ?_ | refine J.region ?_ | refine JL.nil ?_ | refine J.block ?_)
  refine J.loop1 ?_
  repeat (first | (apply JL.y; (first | (apply Y_move; rfl) | (apply Y_leq; rfl; rfl)); rfl) | refine J.seq ?_ | refine J.region ?_ | refine JL.nil ?_)
  refine J.cond_d rfl (fun h => by exfalso; omega) (fun h => ?_)
  repeat (first | (apply JL.y; (apply Y_move; rfl); rfl) | refine J.seq ?_ | refine J.region ?_ | refine JL.nil ?_ | (apply JL.callq; rfl; rfl; (intro wc hwc; first | exact insSort_nil)) | refine J.block ?_ | (apply J.exit; rfl))
  refine J.loop1 ?_
  repeat (first | (apply JL.y; (first | (apply Y_move; rfl) | (apply Y_lss; rfl; rfl)); rfl) | refine J.seq ?_ | refine J.region ?_ | refine JL.nil ?_)
  refine J.cond_d rfl (fun h => by exfalso; omega) (fun h => ?_)
  repeat (first | (apply J.exit; rfl))
  exact J.end0 Try.func160 Try.results160 fun w' hw => ⟨rfl, hw.ext⟩
theorem sortStable_nil {w : World} {A : Option Addr} {c : Nat} {fv : Value} :
    Calls Try.prog 145 #[.slice A 0 c, fv] w fun e w' => e = .returned (.tuple #[]) ∧ Ext No w w' := by
  refine Calls.of_G2 Try.func145 rfl Try.ntmps145 rfl ?_
  refine J.at (C := Cls w No []) ?_ (Cls.start _ _)
  repeat (first | (apply JL.y; (first | (apply Y_move; rfl) | (apply Y_len; rfl)); rfl) | refine J.region ?_ | refine JL.nil ?_ | (apply JL.callq; rfl; rfl; (intro wc hwc; first | exact stable_nil)))
  exact J.end0 Try.func145 Try.results145 fun w' hw => ⟨rfl, hw.ext⟩

/-- slices.Clone of messages. -/
theorem cloneMsgs_spec {w : World} {ok : Nat → Prop} {v : Value} {xs : List (List Value × Msg)} (h : Rd 5 MsgC w ok v xs) (hb : xs.length ≤ 1000000) :
    Calls Try.prog 144 #[v] w fun e w' => ∃ r, e = .returned r ∧ Ext No w w' ∧ Row w' 33 5 r (xs.map (·.1)) ∧ (∀ g, r.ownBlock = some g → w.heap.size ≤ g) := by
  obtain ⟨A, c, rfl, hc, hm⟩ := h.slice
  have hone : ∀ ch ∈ xs.map (·.1), ∀ u ∈ ch, u.oneCell' = true := fun ch hch => by
    obtain ⟨z, hz, rfl⟩ := List.mem_map.1 hch
    obtain ⟨ws, hws, _, _, ho⟩ := MsgC.open_ (h.el z hz)
    rw [hws]; exact msgC_one ho
  refine Calls.of_G1 Try.func144 rfl Try.ntmps144 rfl ?_
  refine J.at (C := Cls w No []) ?_ (Cls.start _ _)
  cases A with
  | none =>
    have : xs = [] := by
      cases xs with
      | nil => rfl
      | cons z xs => obtain ⟨ad, c', e1⟩ := h.base (by decide) (by simp); cases e1
    subst this
    repeat (first | (apply JL.y; (first | (apply Y_move; rfl) | (apply Y_assign; rfl) | (apply Y_snil; rfl)); rfl) | refine J.seq ?_ | refine J.region ?_ | refine JL.nil ?_)
    apply J.cond_t rfl
    repeat (first | (apply JL.y; (apply Y_assign; rfl); rfl) | refine J.seq ?_ | refine J.region ?_ | refine JL.nil ?_)
    exact J.ret1 Try.func144 Try.results144 (RV.tm rfl) fun w' hw => ⟨_, rfl, hw.ext, Row.nil _ _ _, fun g h => by simp [Value.ownBlock] at h⟩
  | some ad =>
    repeat (first | (apply JL.y; (first | (apply Y_move; rfl) | (apply Y_assign; rfl) | (apply Y_snil; rfl)); rfl) | refine J.seq ?_ | refine J.region ?_ | refine JL.nil ?_)
    apply J.cond_f rfl
    repeat (first | (apply JL.y; (apply Y_move; rfl); rfl) | refine J.seq ?_ | refine J.region ?_ | (apply JL.bslice0; rfl; intro _) | refine J.skip ?_)
    refine JL.intro fun w1 hw1 => ?_
    refine GL.append rfl rfl (by decide) (Row.of_blk (chs := []) (hw1.has _ (.head _)) rfl (by simp) rfl (by simp [maxLen])) (xs.map (·.1)) (by simp) (by simpa using h.row.now.size) (rrow_news (h.row.at_ hw1.ext fun _ _ _ h => h) (by decide)) hone (by simp; omega) (by simp [maxLen]; omega) rfl fun v' w' hrow hapd => ?_
    have hb1 := (hw1.mine _ (.head _)).resolve_left id
    have hE : Ext No w w' := hw1.ext.then hapd.ext fun k hk hd => by simp [Value.ownBlock] at hd; simp at hb1; omega
    refine GL.of_JL (C := Cls w' No []) (Cls.start _ _) ?_
    repeat (first | (apply JL.y; (apply Y_assign; rfl); rfl) | refine JL.nil ?_)
    refine J.ret1 Try.func144 Try.results144 (RV.tm rfl) fun w2 hw2 => ⟨_, rfl, hE.trans hw2.ext, Row.ext0 (by simpa using hrow) hw2.ext, fun g hg => ?_⟩
    have hle := hw1.ext.size
    rcases hapd.at_ with h1 | h1 <;> rw [h1] at hg <;> simp [Value.ownBlock] at hg hb1 <;> omega

/-- lane.sorted, by the lane. -/
theorem sorted_spec {w : World} {ok : Nat → Prop} {v : Value} {xs : List (List Value × Msg)} {kf : Nat} (h : Rd 5 MsgC w ok v xs) (hn : xs.length < 40) (hkf : KeyFn kf) :
    Calls Try.prog 111 #[v, .func (.func kf) #[] #[]] w fun e w' => ∃ r, e = .returned r ∧ Ext No w w' ∧ Own 33 5 MsgC w' (fun k => ok k ∧ k < w.heap.size) r (St.srt skey xs) ∧ (∀ g, r.ownBlock = some g → w.heap.size ≤ g) := by
  refine Calls.of_G2 Try.func111 rfl Try.ntmps111 rfl ?_
  refine J.at (C := Cls w No []) ?_ (Cls.start _ _)
  obtain ⟨hp, hone⟩ := prs_eq (xs := xs) fun z hz => by obtain ⟨ws, h1, _, _, h2⟩ := MsgC.open_ (h.el z hz); exact ⟨ws, h1, h2⟩
  have hrw := prs_row xs hp
  have hsrt : (St.srt mkey (prs xs)).map (fun p => (mch p, p.2)) = St.srt skey xs := by
    rw [show mkey = fun s => skey ((fun p => (mch p, p.2)) s) from rfl, St.srt_map, hp]
  have hpl : (prs xs).length = xs.length := by simp [prs]
  repeat (first | (apply JL.y; (first | (apply Y_move; rfl) | (apply Y_assign; rfl)); rfl) | refine J.seq ?_ | refine J.region ?_ | refine JL.nil ?_ | (apply JL.box; rfl; rfl; rfl; intro _))
  refine JL.call _ rfl rfl (fun w1 hw1 => cloneMsgs_spec (h.ext0 hw1.ext) (by omega)) fun w1 r w2 hw1 ⟨hE, hR, hg⟩ => ?_
  have hc := hw1.ext0 hE
  refine GL.of_JL (C := Cls w2 No []) (Cls.start _ _) ?_
  have hkb := hc.has _ (.head _)
  have hkb1 := (hw1.has _ (.head _)).lt
  have hsz1 := hw1.ext.size
  obtain ⟨A, c, hr, hcap, hmx⟩ := hR.slice
  subst hr
  by_cases h0 : xs = []
  · subst h0
    repeat (first | (apply JL.y; (first | (apply Y_move; rfl) | (apply Y_assign; rfl) | (apply Y_makeFunc; rfl)); rfl) | refine J.seq ?_ | refine J.region ?_ | refine JL.nil ?_ | (apply JL.callq; rfl; rfl; (intro wc hwc; first | exact sortStable_nil)))
    refine J.ret1 Try.func111 Try.results111 (RV.tm rfl) fun w3 hw3 => ⟨_, rfl, hc.ext.trans hw3.ext, ⟨Row.ext0 hR hw3.ext, fun z hz => by simp [St.srt] at hz, fun k hk hv => ?_⟩, fun g hv => ?_⟩
    · have := hg k hv; omega
    · have := hg g hv; omega
  have hR' : MRow w2 (.slice A (xs.map (·.1)).length c) (prs xs) := by unfold MRow; rw [hrw]; exact hR
  obtain ⟨g, hA⟩ := hR'.ad (by rw [hpl]; exact List.length_pos_iff.2 h0)
  subst hA
  have hgn := hg g rfl
  repeat (first | (apply JL.y; (first | (apply Y_move; rfl) | (apply Y_assign; rfl) | (apply Y_makeFunc; rfl)); rfl) | refine J.seq ?_ | refine J.region ?_ | refine JL.nil ?_)
  refine JL.call (fun w3 v w4 => v = .tuple #[] ∧ Ext (fun k => k = g) w3 w4 ∧ MRow w4 (.slice (some ⟨g, 0, none⟩) (xs.map (·.1)).length c) (St.srt mkey (prs xs))) rfl rfl (fun w3 hw3 => (sortStable_spec (hR'.ext0 hw3.ext) hone ⟨kf, hkf, hkb.ext0 hw3.ext⟩ (by simp at hkb1; omega) (by omega)).mono fun e w' h => ⟨_, h.1, rfl, h.2⟩) fun w3 r w4 hw3 ⟨hr, hE4, hR4⟩ => ?_
  subst hr
  refine GL.of_JL (C := Cls w4 No []) (Cls.start _ _) ?_
  repeat (first | (apply JL.y; (first | (apply Y_move; rfl) | (apply Y_assign; rfl)); rfl) | refine J.seq ?_ | refine J.region ?_ | refine JL.nil ?_)
  have hE04 : Ext No w w4 := ((hc.ext.trans hw3.ext)).then hE4 fun k hk hd => by omega
  refine J.ret1 Try.func111 Try.results111 (RV.tm rfl) fun w5 hw5 => ⟨_, rfl, hE04.trans hw5.ext, ⟨?_, fun z hz => ?_, fun k hk hv => ?_⟩, fun g' hv => ?_⟩
  · rw [← hsrt, List.map_map]
    exact hR4.ext0 hw5.ext
  · exact (h.el z (St.srt_mem.1 hz)).old (hE04.trans hw5.ext) fun _ _ _ h => h
  · simp [Value.ownBlock] at hv; omega
  · simp [Value.ownBlock] at hv; omega
end Go.Proofs.Ytmkpbbdocndfbaa
