/- no error may be sent about a later fragment, the first fragment of an ICMP message, an ICMP error, or a packet from 0.0.0.0/8, a multicast or a broadcast address; about all others one may be sent. No condition. -/
import Derived.Test.YtkdibloahkhgoaaQReplyMayx2
import Derived.Test.YtkdibloahkhgoaaBase
namespace Go.Proofs.Ytkdibloahkhgoaa.Pure
open Go.RowKit Go.Proofs.Ytkdibloahkhgoaa.QReplyMay Go.Proofs.YtkdibloahkhgoaaW.PrintWords Go.Proofs.YtkdibloahkhgoaaW.PrintLast Go.Proofs.YtkdibloahkhgoaaW.PrintMore Go.Proofs.Ytkdibloahkhgoaa.Base
open Go
set_option linter.unusedVariables false
set_option linter.unusedSimpArgs false

theorem cast_is (s : Int) (h0 : 0 ≤ s) (h1 : s ≤ 4294967295) : ∃ z, addr_Cast.f s = some z ∧ castellanref3_Cast.f s = some z := by
  unfold addr_Cast.f castellanref3_Cast.f
  by_cases c : s / 268435456 = 14
  · rw [if_pos c, if_pos (by omega), if_pos (by omega)]; exact ⟨_, rfl, rfl⟩
  · rw [if_neg c]
    by_cases c1 : s ≥ 3758096384
    · rw [if_pos c1, if_neg (by omega)]; exact ⟨_, rfl, rfl⟩
    · rw [if_neg c1]; exact ⟨_, rfl, rfl⟩
theorem may_is (s p c t : Int) (b z : Bool) (hb : icmp_Bad.f t = some b) (hz : addr_Cast.f s = some z) :
    reply_May.f 0 0 false false 0 0 p s 0 ([] : List Int) ([] : List Int) c 0 0 0 t 0 none = some (!(decide (c = 2) || decide (s / 16777216 = 0) || z || (decide (p = 1) && (decide (c = 1) || b)))) := by
  unfold reply_May.f
  rw [hb, hz]
  simp only [ob]
  by_cases k2 : c = 2
  · rw [if_pos k2, decide_eq_true k2]; rfl
  rw [if_neg k2, decide_eq_false k2]
  by_cases kp : p = 1
  · rw [if_pos kp, decide_eq_true kp]
    by_cases k1 : c = 1
    · rw [if_pos k1, decide_eq_true k1]; cases decide (s / 16777216 = 0) <;> cases z <;> rfl
    · rw [if_neg k1, decide_eq_false k1]
      cases b with
      | true => rw [if_pos rfl]; cases decide (s / 16777216 = 0) <;> cases z <;> rfl
      | false =>
        rw [if_neg (by decide)]
        by_cases ks : s / 16777216 = 0
        · rw [if_pos ks, decide_eq_true ks]; rfl
        · rw [if_neg ks, decide_eq_false ks]; cases z <;> rfl
  · rw [if_neg kp, decide_eq_false kp]
    by_cases ks : s / 16777216 = 0
    · rw [if_pos ks, decide_eq_true ks]; rfl
    · rw [if_neg ks, decide_eq_false ks]; cases z <;> rfl
theorem bad_yes (t : Int) (h : t = 3 ∨ t = 4 ∨ t = 5 ∨ t = 11 ∨ t = 12) : icmp_Bad.f t = some true := by
  rcases h with h | h | h | h | h <;> subst h <;> rfl
theorem bad_no (t : Int) (h3 : t ≠ 3) (h4 : t ≠ 4) (h5 : t ≠ 5) (h11 : t ≠ 11) (h12 : t ≠ 12) : icmp_Bad.f t = some false := by
  unfold icmp_Bad.f; rw [if_neg h3, if_neg h4, if_neg h5, if_neg h11, if_neg h12]
theorem ReplyMay : castellanlaw19_ReplyMay.Pure := by
  intro s p c t hs hp hc ht
  have hs := u32_of hs
  have hkn : castellanlaw19_known.f = some true := by decide
  have htr : castellanlaw19_ReplyMay.j0 1 s p c t true = some true := by simp only [castellanlaw19_ReplyMay.j0]; rw [if_pos True.intro, hkn]; rfl
  refine ⟨1, ?_⟩
  unfold castellanlaw19_ReplyMay.f
  by_cases c1 : c < 0
  · rw [if_pos c1]; exact htr
  rw [if_neg c1]
  by_cases c2 : c > 2
  · rw [decide_eq_true c2]; exact htr
  rw [decide_eq_false c2]
  clear htr
  obtain ⟨z, hz, hz3⟩ := cast_is s hs.1 hs.2
  simp only [castellanlaw19_ReplyMay.j0]
  rw [if_neg (by decide)]
  have hm (b : Bool) (hb : icmp_Bad.f t = some b) := may_is s p c t b z hb hz
  have fin (b : Bool) (hb : icmp_Bad.f t = some b) (v : Bool) (hv : (decide (c = 2) || decide (s / 16777216 = 0) || z || (decide (p = 1) && (decide (c = 1) || b))) = v) :
      ((reply_May.f 0 0 false false 0 0 p s 0 ([] : List Int) ([] : List Int) c 0 0 0 t 0 none).bind fun y => (if (y == (!v)) = true then ((castellanlaw19_known.f).bind fun x => (some x)) else (some false))) = some true := by
    rw [hm b hb, ob, hv, if_pos (beq_self_eq_true _), hkn]; rfl
  have yes (hb : icmp_Bad.f t = some true) :
      (if c = 2 then ((reply_May.f 0 0 false false 0 0 p s 0 ([] : List Int) ([] : List Int) c 0 0 0 t 0 none).bind fun y => (if (y == (!true)) = true then ((castellanlaw19_known.f).bind fun x => (some x)) else (some false))) else (if (s / 16777216) = 0 then ((reply_May.f 0 0 false false 0 0 p s 0 ([] : List Int) ([] : List Int) c 0 0 0 t 0 none).bind fun y => (if (y == (!true)) = true then ((castellanlaw19_known.f).bind fun x => (some x)) else (some false))) else ((castellanref3_Cast.f s).bind fun w => (if w = true then ((reply_May.f 0 0 false false 0 0 p s 0 ([] : List Int) ([] : List Int) c 0 0 0 t 0 none).bind fun y => (if (y == (!true)) = true then ((castellanlaw19_known.f).bind fun x => (some x)) else (some false))) else (if p = 1 then (if c = 1 then ((reply_May.f 0 0 false false 0 0 p s 0 ([] : List Int) ([] : List Int) c 0 0 0 t 0 none).bind fun y => (if (y == (!true)) = true then ((castellanlaw19_known.f).bind fun x => (some x)) else (some false))) else ((reply_May.f 0 0 false false 0 0 p s 0 ([] : List Int) ([] : List Int) c 0 0 0 t 0 none).bind fun y => (if (y == (!true)) = true then ((castellanlaw19_known.f).bind fun x => (some x)) else (some false)))) else ((reply_May.f 0 0 false false 0 0 p s 0 ([] : List Int) ([] : List Int) c 0 0 0 t 0 none).bind fun y => (if (y == (!false)) = true then ((castellanlaw19_known.f).bind fun x => (some x)) else (some false)))))))) = some true := by
    by_cases k2 : c = 2
    · rw [if_pos k2]; exact fin true hb true (by rw [decide_eq_true k2]; rfl)
    rw [if_neg k2]
    by_cases ks : s / 16777216 = 0
    · rw [if_pos ks]; exact fin true hb true (by rw [decide_eq_true ks, decide_eq_false k2]; rfl)
    rw [if_neg ks, hz3, ob]
    cases z with
    | true => rw [if_pos rfl]; exact fin true hb true (by rw [decide_eq_false ks, decide_eq_false k2]; rfl)
    | false =>
      rw [if_neg (by decide)]
      by_cases kp : p = 1
      · rw [if_pos kp]
        have e : (decide (c = 2) || decide (s / 16777216 = 0) || false || (decide (p = 1) && (decide (c = 1) || true))) = true := by rw [decide_eq_true kp]; simp
        by_cases k1 : c = 1
        · rw [if_pos k1]; exact fin true hb true e
        · rw [if_neg k1]; exact fin true hb true e
      · rw [if_neg kp]; exact fin true hb false (by rw [decide_eq_false kp, decide_eq_false ks, decide_eq_false k2]; rfl)
  by_cases t3 : t = 3
  · rw [if_pos t3]; exact yes (bad_yes t (by omega))
  rw [if_neg t3]
  by_cases t4 : t = 4
  · rw [if_pos t4]; exact yes (bad_yes t (by omega))
  rw [if_neg t4]
  by_cases t5 : t = 5
  · rw [if_pos t5]; exact yes (bad_yes t (by omega))
  rw [if_neg t5]
  by_cases t11 : t = 11
  · rw [if_pos t11]; exact yes (bad_yes t (by omega))
  rw [if_neg t11]
  have hb : icmp_Bad.f t = some (t == 12) := by
    by_cases t12 : t = 12
    · rw [bad_yes t (by omega), t12]; rfl
    · rw [bad_no t t3 t4 t5 t11 t12, beq_eq_false_iff_ne.mpr t12]
  generalize (t == 12) = b at hb ⊢
  by_cases k2 : c = 2
  · rw [if_pos k2]; exact fin b hb true (by rw [decide_eq_true k2]; rfl)
  rw [if_neg k2]
  by_cases ks : s / 16777216 = 0
  · rw [if_pos ks]; exact fin b hb true (by rw [decide_eq_true ks, decide_eq_false k2]; rfl)
  rw [if_neg ks, hz3, ob]
  cases z with
  | true => rw [if_pos rfl]; exact fin b hb true (by rw [decide_eq_false ks, decide_eq_false k2]; rfl)
  | false =>
    rw [if_neg (by decide)]
    by_cases kp : p = 1
    · rw [if_pos kp]
      by_cases k1 : c = 1
      · rw [if_pos k1]; exact fin b hb true (by rw [decide_eq_true kp, decide_eq_true k1]; simp)
      · rw [if_neg k1]; exact fin b hb b (by rw [decide_eq_true kp, decide_eq_false k1, decide_eq_false ks, decide_eq_false k2]; simp)
    · rw [if_neg kp]; exact fin b hb false (by rw [decide_eq_false kp, decide_eq_false ks, decide_eq_false k2]; rfl)

end Go.Proofs.Ytkdibloahkhgoaa.Pure
