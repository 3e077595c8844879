/- law 12: lists of steps, what a gate is between two steps. -/
import Derived.Test.YtmkpbbdocndfbaaUBH
namespace Go.Proofs.Ytmkpbbdocndfbaa
open Go.RowKit Go.Proofs
attribute [local irreducible] Yl JL J G GL GA GQ DR DRA

section
variable {H : Type} {enc : TypeId × Value → H} {w : World} {base : Nat} {spare : Nat → Bool} {held : Bool} {fuel : Nat} {cs : List Value} {x : DataW H × List MemPlace}
theorem rd_st12s (h : DataW.trod enc Try.prog w base spare held fuel 73 cs = some x) : ∃ v zs, cs = [v] ∧ Rd 6 St12C w All v zs ∧ ∀ z ∈ zs, True :=
  rd_rows Try.underlying73 (by kernel_rfl) (fun _ _ _ h => rd_st12 h) h
end
theorem early12_spec {A : Option Addr} {m c : Nat} (hm : m ≤ c) (w : World) : Calls Try.prog 57 #[.slice A m c] w fun e w' => e = .returned (.slice A (min m 80) c) ∧ Ext No w w' := by
  refine Calls.of_G1 Try.func57 rfl Try.ntmps57 rfl ?_
  refine J.at (C := Cls w No []) ?_ (Cls.start _ _)
  repeat (first | (apply JL.y; (first | (apply Y_move; rfl) | (apply Y_assign; rfl) | (apply Y_len; rfl) | (apply Y_min; rfl; rfl)); rfl) | refine J.seq ?_ | refine J.region ?_ | refine JL.nil ?_)
  apply JL.y (Y_slice_h rfl rfl (by omega)) rfl
  rw [show (min (m : Int) 80).toNat = min m 80 by omega]
  repeat (first | (apply JL.y; (apply Y_assign; rfl); rfl) | refine JL.nil ?_)
  exact J.ret1 Try.func57 Try.results57 (RV.tm rfl) fun w' hw => ⟨rfl, hw.ext⟩
theorem kind12_spec (v : Value) (s : St12) (w : World) : Calls Try.prog 60 #[.agg (st12C v s).toArray] w fun e w' => e = .returned (.int .i64 (kd8 s.kind)) ∧ Ext No w w' := by
  have hk := kd8_in s.kind
  refine Calls.of_G1 Try.func60 rfl Try.ntmps60 rfl ?_
  refine J.at (C := Cls w No []) ?_ (Cls.start _ _)
  unfold st12C
  repeat (first | (apply JL.y; (first | (apply Y_assign; rfl) | (apply Y_fieldAddr; rfl; rfl) | (apply Y_load1 0; rfl; rfl; rfl; exact inferInstance)); rfl) | refine J.seq ?_ | refine J.region ?_ | refine JL.nil ?_ | (apply JL.box; rfl; rfl; rfl; intro _))
  apply JL.y (Y_conv rfl) rfl
  apply JL.y (Y_rem rfl rfl (by decide)) rfl
  rw [show (IntKind.u64.wrap s.kind).tmod 8 = kd8 s.kind from rfl]
  repeat (first | (apply JL.y; (first | (apply Y_assign; rfl) | (apply Y_convI; rfl; omega)); rfl) | refine JL.nil ?_)
  exact J.ret1 Try.func60 Try.results60 (RV.tm rfl) fun w' hw => ⟨rfl, hw.ext⟩
theorem goodC_in (k : Ch) : (goodC k).kind = 1 ∧ (1 ≤ (goodC k).words ∧ (goodC k).words ≤ 4) ∧ (1 ≤ (goodC k).lanes ∧ (goodC k).lanes ≤ 3) ∧ (1 ≤ (goodC k).depth ∧ (goodC k).depth ≤ 4) ∧ (1 ≤ (goodC k).hold ∧ (goodC k).hold ≤ 4) ∧ (1 ≤ (goodC k).life ∧ (goodC k).life ≤ 60) ∧ (0 ≤ (goodC k).rate ∧ (goodC k).rate ≤ 4) ∧ (1 ≤ (goodC k).cap ∧ (goodC k).cap ≤ 6) := by
  have h1 := near_in k.words (least := 1) (many := 4) (by decide)
  have h2 := near_in k.lanes (least := 1) (many := 3) (by decide)
  have h3 := near_in k.depth (least := 1) (many := 4) (by decide)
  have h4 := near_in k.hold (least := 1) (many := 4) (by decide)
  have h5 := near_in k.life (least := 1) (many := 60) (by decide)
  have h6 := near_in k.rate (least := 0) (many := 5) (by decide)
  have h7 := near_in k.cap (least := 1) (many := 6) (by decide)
  refine ⟨rfl, ⟨h1.1, ?_⟩, ⟨h2.1, ?_⟩, ⟨h3.1, ?_⟩, ⟨h4.1, ?_⟩, ⟨h5.1, ?_⟩, ⟨h6.1, ?_⟩, ⟨h7.1, ?_⟩⟩ <;> simp only [goodC] <;> omega
theorem judge_one {k : Ch} (h0 : k.kind = 1) (h1 : 1 ≤ k.words) {lane : Int} (h2 : 0 ≤ lane ∧ lane < k.lanes) {x : Int} (hx : 0 ≤ x ∧ x ≤ 2147483647) : judge k 0 lane [x] = 0 := by
  have ho : ([x] : List Int).any odd = false := by simp [odd]; omega
  rw [judge, if_neg (by simp), if_neg (by simp [h0]), ho]
  exact if_neg (fun h => by rcases h with h | h | h | h | h <;> first | omega | (simp at h; omega) | cases h)
theorem tmod_in (x m : Int) (hm : 0 < m) : 0 ≤ (IntKind.u64.wrap x).tmod m ∧ (IntKind.u64.wrap x).tmod m < m := ⟨Int.tmod_nonneg _ (wrap_u64_nonneg x), Int.tmod_lt_of_pos _ hm⟩
theorem tok_again (r c t rd round : Int) (h : BIn r c t rd) : bTok r c (bTok r c t rd round) (bRnd rd round) round = bTok r c t rd round := by
  have h1 := (h.tok round).2
  have h2 : ssub round (bRnd rd round) = 0 := by
    have h3 := h.rnd round
    unfold ssub
    rw [cut_id h3.1 h3.2]
    unfold bRnd
    omega
  show min (bTok r c t rd round + ssub round (bRnd rd round) * r) c = _
  rw [h2]
  omega
theorem rnd_again (rd round : Int) : bRnd (bRnd rd round) round = bRnd rd round := by unfold bRnd; omega

/-- A gate made since W. -/
structure GSt (W w : World) (g gl gb : Nat) (Ol E : Nat → Prop) (k : Ch) (ms : List Msg) (t rd seq : Int) : Prop where
  o : GObj w g gl gb Ol E k ms t rd seq
  x : Ext No W w
  new : ∀ q, GB g gb Ol q ∨ E q → W.heap.size ≤ q
section
variable {W w w1 w' : World} {g gl gb : Nat} {Ol E D : Nat → Prop} {k : Ch} {ms ms' : List Msg} {t rd seq t' rd' seq' : Int}
theorem GSt.ext0 (h : GSt W w g gl gb Ol E k ms t rd seq) (he : Ext No w w1) : GSt W w1 g gl gb Ol E k ms t rd seq := ⟨h.o.ext0 he, h.x.trans he, h.new⟩
/-- Other variables, made since W, have turned. -/
theorem GSt.ext (h : GSt W w g gl gb Ol E k ms t rd seq) (he : Ext D w w1) (h1 : ∀ q, D q → W.heap.size ≤ q) (h2 : ∀ q, GB g gb Ol q ∨ E q → ¬ D q) : GSt W w1 g gl gb Ol E k ms t rd seq :=
  ⟨h.o.ext he h2, h.x.then he fun q hq hd => by have := h1 q hd; omega, h.new⟩
theorem GSt.to (h : GSt W w g gl gb Ol E k ms t rd seq) (hT : GTo w w' g gl gb Ol E k ms' t' rd' seq') : ∃ Ol' E', GSt W w' g gl gb Ol' E' k ms' t' rd' seq' ∧ ∀ q, GB g gb Ol' q ∨ E' q → (GB g gb Ol q ∨ E q) ∨ w.heap.size ≤ q := by
  obtain ⟨hE, Ol', E', hG, hO, hE'⟩ := hT
  have hs := h.x.size
  have key : ∀ q, GB g gb Ol' q ∨ E' q → (GB g gb Ol q ∨ E q) ∨ w.heap.size ≤ q := fun q hq => by
    rcases hq with (h1 | h1 | h1) | h1
    · exact .inl (.inl (.inl h1))
    · exact .inl (.inl (.inr (.inl h1)))
    · exact (hO q h1).imp (fun h => .inl (.inr (.inr h))) id
    · exact (hE' q h1).imp .inr id
  exact ⟨Ol', E', ⟨hG, h.x.then hE fun q hq hd => by have := h.new q (.inl hd); omega, fun q hq => (key q hq).elim (h.new q) fun h => by omega⟩, key⟩
theorem GSt.lt (h : GSt W w g gl gb Ol E k ms t rd seq) {q : Nat} (hq : GB g gb Ol q ∨ E q) : q < w.heap.size := h.o.lt hq
end
/-- A new gate. -/
theorem GSt.start {W w1 w : World} {g gl gb : Nat} {k : Ch} {ms : List Msg} {t rd seq : Int} (hx : Ext No W w1) (he : Ext No w1 w) (h : GObj w g gl gb (fun q => q = gl) No k ms t rd seq) (h1 : w1.heap.size ≤ g) (h2 : w1.heap.size ≤ gl) (h3 : w1.heap.size ≤ gb) :
    GSt W w g gl gb (fun q => q = gl) No k ms t rd seq ∧ ∀ q, GB g gb (fun q => q = gl) q ∨ No q → w1.heap.size ≤ q := by
  have hs := hx.size
  have key : ∀ q, GB g gb (fun q => q = gl) q ∨ No q → w1.heap.size ≤ q := fun q hq => by
    rcases hq with (h4 | h4 | h4) | h4
    · omega
    · omega
    · have h5 : q = gl := h4
      omega
    · exact h4.elim
  exact ⟨⟨h, hx.trans he, fun q hq => Nat.le_trans hs (key q hq)⟩, key⟩
section
variable {P : Program} {n : Nat} {e : Env} {C : World → Prop} {ty t t2 : TypeId} {pos : String} {aft : Array Edge} {dst : Option Tmp} {gd : Option (Nat × Bool)} {x y : Operand} {b : Bool}
theorem Y_neqB (hu : P.underlying t = some .bool) (hx : opv e x = some (.bool b)) (hy : opv e y = some (.bool b)) : Yl P C n e ⟨dst, .binOp .neq t x y t2, ty, pos, aft, gd⟩ (.bool false) := by
  unfold Yl
  intro a w ha _
  simp [execOp, ha.eval hx, ha.eval hy, eqGuard, binOp, run_eqB hu]
end
end Go.Proofs.Ytmkpbbdocndfbaa
