/- law 12: GateRates, the walk. -/
import Derived.Test.YtmkpbbdocndfbaaURates
namespace Go.Proofs.Ytmkpbbdocndfbaa
open Go.RowKit Go.Proofs
attribute [local irreducible] Yl JL J G GL GA GQ DR DRA

theorem most_ok {n r c R : Int} (hr : 0 ≤ r ∧ r ≤ 64) (hc : 1 ≤ c ∧ c ≤ 64) (hR : 0 ≤ R ∧ R ≤ 1000) (hn : 0 ≤ n ∧ n ≤ 1000) (h : n ≤ c + r * R) : ¬ n > sadd c (smul r R) := by
  have h0 := Int.mul_nonneg hr.1 hR.1
  unfold sadd smul
  rw [cut_id hr.1 (by omega), cut_id hR.1 (by omega)]
  obtain ⟨p, hp⟩ : ∃ p, p = r * R := ⟨_, rfl⟩
  rw [← hp] at h h0 ⊢
  unfold cut
  omega
theorem rate_step {r c t R d : Int} (hR : 0 ≤ R ∧ R ≤ 1000) (hd : 0 ≤ d ∧ d < 2) : bTok r c t R (R + d) ≤ t + r * (R + d) - r * R ∧ bRnd R (R + d) = R + d := by
  have h1 : ssub (R + d) R = d := by
    unfold ssub
    rw [cut_id (by omega) (by omega), cut_id hR.1 (by omega)]
    omega
  have h2 : bRnd R (R + d) = R + d := by
    unfold bRnd
    rw [cut_id (by omega) (by omega)]
    omega
  refine ⟨?_, h2⟩
  unfold bTok
  rw [h1, Int.mul_add, Int.mul_comm d r]
  omega
set_option maxHeartbeats 4000000 in
theorem gateRates_walk {W : World} {va : Value} {zs : List Int} (k : Ch) (ha : Foot (fun w => RInts w va zs) W All) :
    Calls Try.prog 9 #[.agg (chC k).toArray, va] W fun e w' => e = .returned (.bool true) ∧ Ext No W w' := by
  have hg := goodC_in k
  obtain ⟨kg, hkg⟩ : ∃ kg, kg = goodC k := ⟨_, rfl⟩
  have hgood : ∀ w, Calls Try.prog 49 #[.agg (chC k).toArray] w fun e w' => e = .returned (.agg (chC kg).toArray) ∧ Ext No w w' := by rw [hkg]; exact good12_spec k
  rw [← hkg] at hg
  obtain ⟨g1, g2, g3, g4, g5, g6, g7, g8⟩ := hg
  clear hkg
  have cln : cl 1 3 kg.lanes = kg.lanes := by unfold cl; omega
  have cld : cl 1 8 kg.depth = kg.depth := by unfold cl; omega
  obtain ⟨A, c, rfl, hca, hma⟩ := ha.now.slice
  refine Calls.of_G2 Try.func9 rfl Try.ntmps9 rfl ?_
  refine J.at (C := Cls W No []) ?_ (Cls.start _ _)
  unfold chC
  repeat (first | (apply JL.y; (first | (apply Y_assign; rfl) | (apply Y_loadW 0; rfl; rfl; exact inferInstance; rfl) | (apply Y_not; rfl)); rfl) | refine J.seq ?_ | refine J.region ?_ | refine JL.nil ?_ | (apply JL.callq; rfl; rfl; (intro wc hwc; first | exact lives12_spec _ | exact hgood _)) | (apply JL.box; rfl; rfl; rfl; intro _) | refine J.skip ?_ | refine J.cond_f rfl ?_)
  unfold chC
  repeat (first | (apply JL.y; (apply Y_loadW 0; rfl; rfl; exact inferInstance; rfl); rfl) | refine J.seq ?_ | refine J.region ?_ | refine JL.nil ?_ | (apply JL.store; (apply St_W 0; rfl; rfl; rfl; exact inferInstance; rfl; rfl; (first | (focus (simp [Value.oneCell']; done)) | (simp [Value.oneCell']; assumption) | (simp [Value.oneCell']; exact ⟨by assumption, by assumption⟩)); (first | (focus (simp only [List.set_cons_zero]; done)) | (simp only [List.set_cons_zero]; rfl)))))
  rename_i b2
  refine JL.call _ rfl rfl (fun w1 hw1 => gNew_spec kg w1) fun w1 r w2 hw1 ⟨g, gl, gb, hr, hE2, hG2, hgl, hll, hbl⟩ => ?_
  subst hr
  have hX1 := hw1.ext
  have hB2 := (hw1.ext0 hE2).has _ (.head _)
  have b2l : W.heap.size ≤ b2 := hw1.fresh fun _ h => h.elim
  have b2u := (hw1.has _ (.head _)).lt
  simp only at b2u
  obtain ⟨hS2, hN2⟩ := GSt.start hX1 hE2 hG2 hgl hll hbl
  have hnb2 : ∀ q, GB g gb (fun q => q = gl) q ∨ No q → q ≠ b2 := fun q hq => by have := hN2 q hq; omega
  refine GL.of_JL (C := Cls w2 (fun q => q = b2) [_]) (Cls.start1 hB2) ?_
  repeat (first | (apply JL.y; (apply Y_assign; rfl); rfl) | refine J.seq ?_ | refine J.region ?_ | refine JL.nil ?_ | refine J.block ?_)
  refine J.intro fun wl hwl => G.loop (Inv := fun mm e wl => ∃ (i : Nat) (R t n : Int) (Ol E : Nat → Prop), i ≤ 150 ∧ mm = 150 - i ∧ (0 ≤ R ∧ R ≤ i) ∧ (0 ≤ n ∧ n ≤ i) ∧ n + t ≤ cl 1 64 kg.cap + cl 0 64 kg.rate * R ∧ GSt W wl g gl gb Ol E kg [] t R n ∧ BlkIn wl ⟨b2, chC kg, 61⟩ ∧ (∀ q, GB g gb Ol q ∨ E q → q ≠ b2) ∧ e = [(1, .slice A zs.length c), (2, .pointer (some ⟨b2, 0, none⟩)), (5, .pointer (some ⟨g, 0, none⟩)), (6, .int .i64 R), (7, .int .i64 n), (8, .int .i64 i)])
    _ _ ⟨0, 0, _, 0, _, _, Nat.zero_le _, rfl, by simp, by simp, by rw [Int.mul_zero]; omega, hS2.ext hwl.ext (fun q hq => by omega) (fun q hq h => hnb2 q hq h), hwl.has _ (.head _), hnb2, rfl⟩ ⟨rfl, rfl, rfl, rfl, rfl, rfl, trivial⟩ ?_
  clear hS2 hG2 hN2 hnb2
  rintro mm e w3 ⟨i, R, t, n, Ol, E, hi, rfl, hR, hn, hlow, hS3, hB3, hnb, rfl⟩ ih
  have st3 : ∀ {H' : List Blk} {w' : World}, Cls w3 (fun q => q = b2) H' w' → (⟨b2, chC kg, 61⟩ : Blk) ∈ H' → Ext No w3 w' := fun h h1 => h.still fun q hq => ⟨_, h1, hq.symm, hB3⟩
  refine J.at (C := Cls w3 (fun q => q = b2) [_]) ?_ (Cls.start1 hB3)
  repeat (first | (apply JL.y; (first | (apply Y_move; rfl) | (apply Y_len; rfl) | (apply Y_lss; rfl; rfl)); rfl) | refine J.seq ?_ | refine J.region ?_)
  by_cases hil : (i : Int) < zs.length
  case neg =>
    rw [decide_eq_false hil]
    repeat (first | (apply JL.y; (first | (apply Y_assign; rfl) | (apply Y_pick_f; rfl; rfl)); rfl) | refine J.seq ?_ | refine J.region ?_ | refine JL.nil ?_ | (apply JL.guard_no; rfl; rfl; rfl; rfl; rfl) | refine J.cond_f rfl ?_ | (apply J.exit; rfl))
    exact J.ret1 Try.func9 Try.results9 (RV.tm rfl) fun w' hw' => ⟨rfl, hS3.x.trans (st3 hw' (by simp))⟩
  rw [decide_eq_true hil]
  repeat (first | (apply JL.y; (first | (apply Y_move; rfl) | (apply Y_lss; rfl; rfl) | (apply Y_pick_t; rfl; rfl)); rfl) | refine JL.nil ?_ | (apply JL.guard_yes; rfl; rfl; rfl))
  refine J.cond_d rfl (fun h150 => ?_) (fun h150 => ?_)
  case refine_2 =>
    repeat (first | (apply JL.y; (apply Y_assign; rfl); rfl) | refine J.seq ?_ | refine J.region ?_ | refine JL.nil ?_ | (apply J.exit; rfl))
    exact J.ret1 Try.func9 Try.results9 (RV.tm rfl) fun w' hw' => ⟨rfl, hS3.x.trans (st3 hw' (by simp))⟩
  have hx : zs[i]? = some zs[i] := List.getElem?_eq_getElem (by omega)
  obtain ⟨z, hz⟩ : ∃ z, zs[i]? = some z := ⟨_, hx⟩
  clear hx
  obtain ⟨ad, rfl⟩ := ha.now.ad hz
  have l1 := (RInts.lds ha hz).ext0 hS3.x
  unfold maxLen at hma
  have b2u3 := hB3.lt
  simp only at b2u3
  have hlt3 : ∀ q, GB g gb Ol q ∨ E q → q < w3.heap.size := fun q hq => hS3.lt hq
  unfold chC at hB3 st3
  unfold chC
  have hr1 := tmod_in z 2 (by decide)
  obtain ⟨dr, hdr⟩ : ∃ x, x = (IntKind.u64.wrap z).tmod 2 := ⟨_, rfl⟩
  rw [← hdr] at hr1
  repeat (first | (apply JL.y; (apply Y_move; rfl); rfl) | refine J.seq ?_ | refine J.region ?_ | refine J.skip ?_ | refine J.block ?_)
  apply JL.y (Y_indexAddr rfl rfl (by omega)) rfl
  apply JL.y (Y_loadP rfl fun w' hw' => l1.at_ (st3 hw' (by simp)) fun _ _ _ h => h) rfl
  apply JL.y (Y_conv rfl) rfl
  apply JL.y (Y_rem rfl rfl (by decide)) rfl
  rw [← hdr]
  repeat (first | (apply JL.y; (first | (apply Y_move; rfl) | (apply Y_assign; rfl) | (apply Y_add; rfl; rfl; omega) | (apply Y_convI; rfl; omega)); rfl) | refine J.seq ?_ | refine J.region ?_ | refine JL.nil ?_ | (apply JL.bslice1; rfl; rfl; rfl; rfl; rfl; rfl; intro _))
  rename_i bi
  have hbi := hS3.o.bi
  have hj0 : judge kg 0 0 [1] = 0 := judge_one g1 g2.1 (by omega) (by decide)
  have hrm : ¬ room (cl 1 3 kg.lanes) (cl 1 8 kg.depth) [] 0 = 0 := by
    rw [cln, cld, room, if_pos (by omega)]
    show ¬ kg.depth - 0 = 0
    omega
  obtain ⟨hst, hrd⟩ := rate_step (r := cl 0 64 kg.rate) (c := cl 1 64 kg.cap) (t := t) (show 0 ≤ R ∧ R ≤ 1000 by omega) hr1
  have htk := hbi.tok (R + dr)
  refine JL.call _ rfl rfl (fun w9 hw9 => gOffer_spec (hS3.o.ext hw9.ext fun q hq h => hnb q hq h) (by omega) (RInts.of_blk (hw9.has _ (.head _))) (fun q h1 h2 => by
    have := hS3.lt (.inl h2)
    have : w3.heap.size ≤ bi := hw9.fresh fun q h => ⟨_, .head _, h.symm⟩
    omega) (by simp) 0 0 i (R + dr)) fun w9 r w10 hw9 ⟨vm, hr, hE10, M, O1, E1, hF, hM, hG10, hO1, hE1⟩ => ?_
  subst hr
  have hS9 := hS3.ext hw9.ext (fun q hq => by omega) (fun q hq h => hnb q hq h)
  obtain ⟨O2, E2, hS10, hkey⟩ := hS9.to ⟨hE10, O1, E1, hG10, hO1, hE1⟩
  have b29 := (hw9.has _ (.tail _ (.head _))).lt
  have hC2 := (hw9.has _ (.tail _ (.head _))).keep hE10 fun h => hnb _ (.inl h) rfl
  simp only at b29
  have hnb10 : ∀ q, GB g gb O2 q ∨ E2 q → ¬ (q = b2) := fun q hq h => (hkey q hq).elim (fun h1 => hnb q h1 h) fun h1 => by omega
  obtain ⟨wsm, rfl, hFw, _, how⟩ := RMsg.open_ hF
  clear hkey hF hFw hG10 hS9 hM hO1 hE1
  refine GL.of_JL (C := Cls w10 (fun q => q = b2) [_]) (Cls.start1 hC2) ?_
  unfold msgC
  by_cases h0 : bTok (cl 0 64 kg.rate) (cl 1 64 kg.cap) t R (R + dr) = 0
  · have ho : offR kg [] t R n 0 0 [1] i (R + dr) = ⟨zeroMsg, 2, [], 0, bRnd R (R + dr), n⟩ := by rw [offR, if_neg (by rw [hj0]; simp), if_neg hrm, if_pos h0]
    rw [ho] at hS10 ⊢
    rw [hrd] at hS10
    repeat (first | (apply JL.y; (first | (apply Y_move; rfl) | (apply Y_assign; rfl) | (apply Y_extract; rfl; rfl) | (apply Y_eql; rfl; rfl)); rfl) | refine J.seq ?_ | refine J.region ?_ | refine JL.nil ?_ | (apply JL.alloc; rfl; rfl; intro _) | (apply JL.store; (apply St_W 0; rfl; rfl; rfl; exact inferInstance; rfl; rfl; (first | (focus (simp [Value.oneCell']; done)) | (simp [Value.oneCell']; assumption) | (simp [Value.oneCell']; exact ⟨by assumption, by assumption⟩)); (first | (focus (simp only [List.set_cons_zero]; done)) | (simp only [List.set_cons_zero]; rfl)))) | refine J.skip ?_ | refine J.cond_f rfl ?_)
    refine JL.call _ rfl rfl (fun w11 hw11 => gTake_spec (hS10.o.ext hw11.ext hnb10)) fun w11 r w12 hw11 ⟨v, hr, hF, hT⟩ => ?_
    subst hr
    have hS11 := hS10.ext hw11.ext (fun q hq => by omega) hnb10
    have hT' := hS11.o.lane hT
    obtain ⟨O3, E3, hS12, hkey3⟩ := hS11.to hT'
    have b211 := (hw11.has _ (.tail _ (.head _))).lt
    simp only at b211
    have hD2 := (hw11.has _ (.tail _ (.head _))).keep hT'.1 fun h => hnb10 _ (.inl h) rfl
    have hnb12 : ∀ q, GB g gb O3 q ∨ E3 q → ¬ q = b2 := fun q hq h => (hkey3 q hq).elim (fun h1 => hnb10 q h1 h) fun h1 => by omega
    have hm := most_ok (n := n) (R := R + dr) hbi.hr hbi.hc (by omega) (by omega) (by omega)
    replace hS12 : GSt W w12 g gl gb O3 E3 kg [] (0) (R + dr) (n) := hS12
    refine GL.of_JL (C := Cls w12 (fun q => q = b2) [_]) (Cls.start1 hD2) ?_
    repeat (first | (apply JL.y; (first | (apply Y_move; rfl) | (apply Y_fieldAddr; rfl; rfl) | (apply Y_load1 0; rfl; rfl; rfl; exact inferInstance) | (apply Y_gtr; rfl; rfl)); rfl) | refine J.seq ?_ | refine J.region ?_ | refine JL.nil ?_ | (apply JL.callq; rfl; rfl; (intro wc hwc; first | exact most_spec _ _ _ _)))
    rw [decide_eq_false hm]
    repeat (first | (apply JL.y; (first | (apply Y_move; rfl) | (apply Y_neq; rfl; rfl) | (apply Y_pick_f; rfl; rfl)); rfl) | (apply JL.callq; rfl; rfl; (intro wc hwc; first | exact gSeq_spec (hS12.o.ext hwc.ext hnb12))) | (apply JL.guard_yes; rfl; rfl; rfl))
    rw [decide_eq_false (show ¬ (n ≠ n) by simp)]
    repeat (first | (apply JL.y; (first | (apply Y_move; rfl) | (apply Y_assign; rfl) | (apply Y_neq; rfl; rfl) | (apply Y_add; rfl; rfl; omega) | (apply Y_pick_f; rfl; rfl)); rfl) | refine J.region ?_ | refine JL.nil ?_ | (apply JL.callq; rfl; rfl; (intro wc hwc; first | exact gLen_spec (hS12.o.ext hwc.ext hnb12))) | (apply JL.guard_yes; rfl; rfl; rfl) | refine J.skip ?_ | refine J.cond_f rfl ?_ | refine J.inBlock ?_)
    refine J.intro fun wl hwl => ih (150 - (i + 1)) (by omega) _ _ wl ?_ ⟨i + 1, R + dr, 0, n, _, _, by omega, rfl, by omega, by omega, by omega, hS12.ext hwl.ext (fun q hq => by omega) hnb12, hwl.has _ (.head _), hnb12, rfl⟩
    exact ⟨rfl, rfl, rfl, rfl, rfl, rfl, trivial⟩
  · have ho : offR kg [] t R n 0 0 [1] i (R + dr) = ⟨⟨[1], 0, cut i, sadd i kg.life, n + 1⟩, 0, [⟨[1], 0, cut i, sadd i kg.life, n + 1⟩], bTok (cl 0 64 kg.rate) (cl 1 64 kg.cap) t R (R + dr) - 1, bRnd R (R + dr), n + 1⟩ := by rw [offR, if_neg (by rw [hj0]; simp), if_neg hrm, if_neg h0]; rfl
    rw [ho] at hS10 ⊢
    rw [hrd] at hS10
    repeat (first | (apply JL.y; (first | (apply Y_move; rfl) | (apply Y_assign; rfl) | (apply Y_extract; rfl; rfl) | (apply Y_eql; rfl; rfl) | (apply Y_add; rfl; rfl; omega)); rfl) | refine J.seq ?_ | refine J.region ?_ | refine JL.nil ?_ | (apply JL.alloc; rfl; rfl; intro _) | (apply JL.store; (apply St_W 0; rfl; rfl; rfl; exact inferInstance; rfl; rfl; (first | (focus (simp [Value.oneCell']; done)) | (simp [Value.oneCell']; assumption) | (simp [Value.oneCell']; exact ⟨by assumption, by assumption⟩)); (first | (focus (simp only [List.set_cons_zero]; done)) | (simp only [List.set_cons_zero]; rfl)))) | refine J.cond_t rfl ?_)
    refine JL.call _ rfl rfl (fun w11 hw11 => gTake_spec (hS10.o.ext hw11.ext hnb10)) fun w11 r w12 hw11 ⟨v, hr, hF, hT⟩ => ?_
    subst hr
    have hS11 := hS10.ext hw11.ext (fun q hq => by omega) hnb10
    have hT' := hS11.o.lane hT
    obtain ⟨O3, E3, hS12, hkey3⟩ := hS11.to hT'
    have b211 := (hw11.has _ (.tail _ (.head _))).lt
    simp only at b211
    have hD2 := (hw11.has _ (.tail _ (.head _))).keep hT'.1 fun h => hnb10 _ (.inl h) rfl
    have hnb12 : ∀ q, GB g gb O3 q ∨ E3 q → ¬ q = b2 := fun q hq h => (hkey3 q hq).elim (fun h1 => hnb10 q h1 h) fun h1 => by omega
    have hm := most_ok (n := n + 1) (R := R + dr) hbi.hr hbi.hc (by omega) (by omega) (by omega)
    replace hS12 : GSt W w12 g gl gb O3 E3 kg [] (bTok (cl 0 64 kg.rate) (cl 1 64 kg.cap) t R (R + dr) - 1) (R + dr) (n + 1) := hS12
    refine GL.of_JL (C := Cls w12 (fun q => q = b2) [_]) (Cls.start1 hD2) ?_
    repeat (first | (apply JL.y; (first | (apply Y_move; rfl) | (apply Y_fieldAddr; rfl; rfl) | (apply Y_load1 0; rfl; rfl; rfl; exact inferInstance) | (apply Y_gtr; rfl; rfl)); rfl) | refine J.seq ?_ | refine J.region ?_ | refine JL.nil ?_ | (apply JL.callq; rfl; rfl; (intro wc hwc; first | exact most_spec _ _ _ _)))
    rw [decide_eq_false hm]
    repeat (first | (apply JL.y; (first | (apply Y_move; rfl) | (apply Y_neq; rfl; rfl) | (apply Y_pick_f; rfl; rfl)); rfl) | (apply JL.callq; rfl; rfl; (intro wc hwc; first | exact gSeq_spec (hS12.o.ext hwc.ext hnb12))) | (apply JL.guard_yes; rfl; rfl; rfl))
    rw [decide_eq_false (show ¬ (n + 1 ≠ n + 1) by simp)]
    repeat (first | (apply JL.y; (first | (apply Y_move; rfl) | (apply Y_assign; rfl) | (apply Y_neq; rfl; rfl) | (apply Y_add; rfl; rfl; omega) | (apply Y_pick_f; rfl; rfl)); rfl) | refine J.region ?_ | refine JL.nil ?_ | (apply JL.callq; rfl; rfl; (intro wc hwc; first | exact gLen_spec (hS12.o.ext hwc.ext hnb12))) | (apply JL.guard_yes; rfl; rfl; rfl) | refine J.skip ?_ | refine J.cond_f rfl ?_ | refine J.inBlock ?_)
    refine J.intro fun wl hwl => ih (150 - (i + 1)) (by omega) _ _ wl ?_ ⟨i + 1, R + dr, bTok (cl 0 64 kg.rate) (cl 1 64 kg.cap) t R (R + dr) - 1, n + 1, _, _, by omega, rfl, by omega, by omega, by omega, hS12.ext hwl.ext (fun q hq => by omega) hnb12, hwl.has _ (.head _), hnb12, rfl⟩
    exact ⟨rfl, rfl, rfl, rfl, rfl, rfl, trivial⟩
end Go.Proofs.Ytmkpbbdocndfbaa
