/- law 12: what an offer refused, or taken, leaves. -/
import Derived.Test.YtmkpbbdocndfbaaULaw12b
namespace Go.Proofs.Ytmkpbbdocndfbaa
open Go.RowKit Go.Proofs
attribute [local irreducible] Yl JL J G GL GA GQ DR DRA

theorem ssub_rnd {rd : Int} (h : 0 ≤ rd ∧ rd ≤ 4611686018427387904) (R : Int) : ssub R (bRnd rd R) = 0 := by
  have hc := cut_in R
  unfold ssub bRnd
  rw [cut_id (n := max rd (cut R)) (by omega) (by omega)]
  omega
theorem offR_no {k : Ch} {ms : List Msg} {t rd seq mode lane now R : Int} {ws : List Int} (hb : BIn (cl 0 64 k.rate) (cl 1 64 k.cap) t rd) (he : (offR k ms t rd seq mode lane ws now R).e ≠ 0) :
    (offR k ms t rd seq mode lane ws now R).m = zeroMsg ∧ (offR k ms t rd seq mode lane ws now R).ms = ms ∧ (offR k ms t rd seq mode lane ws now R).seq = seq ∧
      bTok (cl 0 64 k.rate) (cl 1 64 k.cap) (offR k ms t rd seq mode lane ws now R).t (offR k ms t rd seq mode lane ws now R).rd R = bTok (cl 0 64 k.rate) (cl 1 64 k.cap) t rd R := by
  unfold offR at he ⊢
  split
  · exact ⟨rfl, rfl, rfl, rfl⟩
  · split
    · exact ⟨rfl, rfl, rfl, rfl⟩
    · split
      · rename_i h
        refine ⟨rfl, rfl, rfl, ?_⟩
        have := tok_again _ _ _ _ R hb
        rw [h] at this ⊢
        exact this
      · rename_i h1 h2 h3
        rw [if_neg h1, if_neg h2, if_neg h3] at he
        exact absurd rfl he
theorem offR_yes {k : Ch} {ms : List Msg} {t rd seq mode lane now R : Int} {ws : List Int} (hb : BIn (cl 0 64 k.rate) (cl 1 64 k.cap) t rd) (he : (offR k ms t rd seq mode lane ws now R).e = 0) :
    (offR k ms t rd seq mode lane ws now R).ms.length = ms.length + 1 ∧ (offR k ms t rd seq mode lane ws now R).seq = seq + 1 ∧ (offR k ms t rd seq mode lane ws now R).m.seq = seq + 1 ∧
      bTok (cl 0 64 k.rate) (cl 1 64 k.cap) (offR k ms t rd seq mode lane ws now R).t (offR k ms t rd seq mode lane ws now R).rd R = bTok (cl 0 64 k.rate) (cl 1 64 k.cap) t rd R - 1 := by
  unfold offR at he ⊢
  split
  · rename_i h1
    rw [if_pos h1] at he
    exact absurd he h1
  · rename_i h1
    rw [if_neg h1] at he
    split
    · rename_i h2
      rw [if_pos h2] at he
      exact absurd he (by simp)
    · rename_i h2
      rw [if_neg h2] at he
      split
      · rename_i h3
        rw [if_pos h3] at he
        exact absurd he (by simp)
      · refine ⟨by simp, rfl, rfl, ?_⟩
        have h := hb.tok R
        show min (bTok (cl 0 64 k.rate) (cl 1 64 k.cap) t rd R - 1 + ssub R (bRnd rd R) * cl 0 64 k.rate) (cl 1 64 k.cap) = _
        rw [ssub_rnd hb.hrd, Int.zero_mul]
        omega
end Go.Proofs.Ytmkpbbdocndfbaa
