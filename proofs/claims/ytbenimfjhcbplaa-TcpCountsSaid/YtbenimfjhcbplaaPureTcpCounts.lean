/- the reset of a segment without ACK counts every data byte, SYN and FIN. No condition besides the law's own guard. -/
import Derived.Test.YtbenimfjhcbplaaQTcpCountsx1
import Derived.Test.YtbenimfjhcbplaaBase
namespace Go.Proofs.Ytbenimfjhcbplaa.Pure
open Go.RowKit Go.Proofs.Ytbenimfjhcbplaa.QTcpCounts Go.Proofs.YtbenimfjhcbplaaW.PrintWords Go.Proofs.YtbenimfjhcbplaaW.PrintLast Go.Proofs.YtbenimfjhcbplaaW.PrintMore Go.Proofs.Ytbenimfjhcbplaa.Base
open Go
set_option linter.unusedVariables false
set_option linter.unusedSimpArgs false

/-- what a reset counts -/
def tk (f n : Int) : Int := if Go.bits .and .i64 f 1 = 0 then (if Go.bits .and .i64 f 2 = 0 then n else (n + 1) % 4294967296) else ((if Go.bits .and .i64 f 2 = 0 then n else (n + 1) % 4294967296) + 1) % 4294967296
theorem treset_no (a b s k f w u : Int) (o d : List Int) (K : Nat) (h : Go.bits .and .i64 f 4 ≠ 0) : tcp_Reset.f K a b s k f w u o d = some (0, 0, 0, 0, 0, 0, 0, ([] : List Int), ([] : List Int), false) := by
  unfold tcp_Reset.f; rw [if_neg h]
theorem treset_ack (a b s k f w u : Int) (o d : List Int) (K : Nat) (h : Go.bits .and .i64 f 4 = 0) (h2 : Go.bits .and .i64 f 16 ≠ 0) : tcp_Reset.f K a b s k f w u o d = some (b, a, k, 0, 4, 0, 0, ([] : List Int), ([] : List Int), true) := by
  unfold tcp_Reset.f; rw [if_pos h, if_neg h2]
theorem treset_cnt (a b s k f w u : Int) (o d : List Int) (K : Nat) (hK : 3 ≤ K) (h : Go.bits .and .i64 f 4 = 0) (h2 : Go.bits .and .i64 f 16 = 0) :
    tcp_Reset.f K a b s k f w u o d = some (b, a, 0, tk f ((s + (d.length : Int)) % 4294967296), 20, 0, 0, ([] : List Int), ([] : List Int), true) := by
  obtain ⟨j, rfl⟩ : ∃ j, K = j + 3 := ⟨K - 3, by omega⟩
  unfold tcp_Reset.f
  rw [if_pos h, if_pos h2, ob]
  generalize (s + (d.length : Int)) % 4294967296 = n
  have e0 : wrap64 (0 + 1) = 1 := by unfold wrap64; omega
  have e1 : wrap64 (1 + 1) = 2 := by unfold wrap64; omega
  have r0 : rd ([2, 1] : List Int) 0 = 2 := rfl
  have r1 : rd ([2, 1] : List Int) 1 = 1 := rfl
  have l2 : ((([2, 1] : List Int).length : Nat) : Int) = 2 := rfl
  unfold tk
  simp only [tcp_Reset.l0, e0, e1, r0, r1, l2]
  by_cases c2 : Go.bits .and .i64 f 2 = 0 <;> by_cases c1 : Go.bits .and .i64 f 1 = 0 <;> simp [c1, c2]
theorem tknown (K : Nat) (hK : 3 ≤ K) : castellanlaw5_known.f K = some true := by
  unfold castellanlaw5_known.f
  rw [treset_cnt 1 2 5 0 2 0 0 [] [] K hK rfl rfl, ob]
  rfl

theorem TcpCounts : castellanlaw5_TcpCounts.Pure := by
  intro s d syn fin hs h1 h2 h3
  refine ⟨4, ?_⟩
  have hkn := tknown 3 (by omega)
  unfold castellanlaw5_TcpCounts.f
  by_cases c : (d.length : Int) > 1000
  · rw [if_pos c]
  rw [if_neg c]
  have e3 : Go.bits .or .i64 2 1 = 3 := rfl
  have e1 : Go.bits .or .i64 0 1 = 1 := rfl
  have e19 : Go.bits .or .i64 3 16 = 19 := rfl
  have e18 : Go.bits .or .i64 2 16 = 18 := rfl
  have e17 : Go.bits .or .i64 1 16 = 17 := rfl
  have e16 : Go.bits .or .i64 0 16 = 16 := rfl
  have k3 (n : Int) : tk 3 n = ((n + 1) % 4294967296 + 1) % 4294967296 := rfl
  have k2 (n : Int) : tk 2 n = (n + 1) % 4294967296 := rfl
  have k1 (n : Int) : tk 1 n = (n + 1) % 4294967296 := rfl
  have k0 (n : Int) : tk 0 n = n := rfl
  cases syn with
  | true =>
    rw [if_pos rfl]
    simp only [castellanlaw5_TcpCounts.j0]
    cases fin with
    | true =>
      rw [if_pos rfl, e3, e19, treset_cnt 5 6 s 0 3 0 0 [] d 3 (by omega) rfl rfl, ob, treset_ack 5 6 s 99 19 0 0 [] d 3 rfl (by decide), ob, k3, if_pos rfl, if_pos rfl, if_pos rfl, if_pos rfl, if_pos rfl, if_pos rfl, if_pos rfl, hkn]
      rfl
    | false =>
      rw [if_neg (by decide), e18, treset_cnt 5 6 s 0 2 0 0 [] d 3 (by omega) rfl rfl, ob, treset_ack 5 6 s 99 18 0 0 [] d 3 rfl (by decide), ob, k2, if_pos rfl, if_pos rfl, if_pos rfl, if_pos rfl, if_pos rfl, if_pos rfl, if_pos rfl, hkn]
      rfl
  | false =>
    rw [if_neg (by decide)]
    simp only [castellanlaw5_TcpCounts.j0]
    cases fin with
    | true =>
      rw [if_pos rfl, e1, e17, treset_cnt 5 6 s 0 1 0 0 [] d 3 (by omega) rfl rfl, ob, treset_ack 5 6 s 99 17 0 0 [] d 3 rfl (by decide), ob, k1, if_pos rfl, if_pos rfl, if_pos rfl, if_pos rfl, if_pos rfl, if_pos rfl, if_pos rfl, hkn]
      rfl
    | false =>
      rw [if_neg (by decide), e16, treset_cnt 5 6 s 0 0 0 0 [] d 3 (by omega) rfl rfl, ob, treset_ack 5 6 s 99 16 0 0 [] d 3 rfl (by decide), ob, k0, if_pos rfl, if_pos rfl, if_pos rfl, if_pos rfl, if_pos rfl, if_pos rfl, if_pos rfl, hkn]
      rfl

end Go.Proofs.Ytbenimfjhcbplaa.Pure
