/- Config, other: the world as it was; Master: but for draws. -/
import Derived.Test.YtedcdjlpogpgbaaShipTold
import Derived.Test.YtedcdjlpogpgbaaWords
set_option linter.unusedVariables false
set_option linter.unusedSimpArgs false
namespace Go.Proofs.Ytedcdjlpogpgbaa
open Go.RowKit

set_option maxRecDepth 100000 in
set_option maxHeartbeats 4000000 in
theorem Config_same (L : Lay) (s : St) (w : World) (h : StAt w L s) :
    Calls Try.prog 17 #[.pointer (some ⟨L.b, 0, none⟩)] w fun e w' => e = .returned (.int .i64 s.table.length) ∧ w = w' := by
  have hbl := h.blk.lt
  obtain ⟨A, ca, htv, _⟩ := own_sl h.tab
  have c4 : w.cell? ⟨L.b, 4, none⟩ = some (.slice A s.table.length ca) := by rw [h.blk.cell, ← htv]; rfl
  clear h htv
  go_enter Try.func17, Try.ntmps17
  go_wp2_with fail
  go_ret
  exact ⟨rfl, rfl⟩

set_option maxRecDepth 100000 in
set_option maxHeartbeats 4000000 in
theorem Master_drew (L : Lay) (s : St) (w : World) (h : StAt w L s) (hn : 0 < s.table.length) (hm : s.table.length ≤ 1000) :
    Calls Try.prog 16 #[.pointer (some ⟨L.b, 0, none⟩)] w fun e w' => e = .returned (.int .i64 (ep s.table (s.table.length - 1)).m) ∧ ∃ n, w' = w.drewN n := by
  have hbl := h.blk.lt
  obtain ⟨b, o, c, htv, hc1, hc2, hb, hcell⟩ := eps_at (own_sl h.tab) hn
  have c4 : w.cell? ⟨L.b, 4, none⟩ = some (.slice (some ⟨b, o, none⟩) s.table.length c) := by rw [h.blk.cell, ← htv]; rfl
  obtain ⟨a0, _, _⟩ := hcell (s.table.length - 1) (by omega)
  obtain ⟨n, hN⟩ : ∃ n, s.table.length = n + 1 := ⟨s.table.length - 1, by omega⟩
  obtain ⟨m, hM⟩ : ∃ m, (ep s.table (s.table.length - 1)).m = m := ⟨_, rfl⟩
  rw [hM] at a0 ⊢
  rw [hN] at c4 a0
  simp only [Nat.add_sub_cancel] at a0
  have hn1 : n ≤ 1000 := by omega
  clear h htv hcell hM hN hn hm
  go_enter Try.func16, Try.ntmps16
  go_wp2_with fail
  go_quiet (fail)
  go_wp2_with fail
  go_ret
  exact ⟨rfl, _, rfl⟩

set_option maxRecDepth 100000 in
set_option maxHeartbeats 4000000 in
theorem other_same (b : Nat) (S : Shp) (n : Int) (w : World) (h : ShipAt w b S) :
    Calls Try.prog 58 #[.pointer (some ⟨b, 0, none⟩), .int .i64 n] w fun e w' => e = .returned (.bool (otherB S.me n)) ∧ w = w' := by
  have hbl := Blk.lt h
  have c0 : World.cell? w ⟨b, 0, none⟩ = some (.int .i64 S.me) := by rw [Blk.cell h]; rfl
  clear h
  obtain ⟨r, hr⟩ : ∃ r, otherB S.me n = r := ⟨_, rfl⟩
  rw [hr]
  unfold otherB at hr
  have HR := Lib.hid hr
  clear hr
  go_enter Try.func58, Try.ntmps58
  by_cases h1 : 1 ≤ n
  · have e1 : decide (1 ≤ n) = true := by simp [h1]
    by_cases h2 : n ≤ 4
    · have e2 : decide (n ≤ 4) = true := by simp [h2]
      by_cases h3 : n = S.me
      · have hr : r = false := by rw [← HR.out]; simp [h3]
        subst hr
        subst h3
        go_wp2_with fail
        go_ret
        exact ⟨by first | rfl | simp, rfl⟩
      · have hr : r = true := by rw [← HR.out]; simp [h1, h2, h3]
        subst hr
        have e3 : (n != S.me) = true := by simp [h3]
        go_wp2_with fail
        go_ret
        exact ⟨by first | rfl | simp, rfl⟩
    · have e2 : decide (n ≤ 4) = false := by simp; omega
      have hr : r = false := by rw [← HR.out]; simp [h2]
      subst hr
      go_wp2_with fail
      go_ret
      exact ⟨by first | rfl | simp, rfl⟩
  · have e1 : decide (1 ≤ n) = false := by simp; omega
    have hr : r = false := by rw [← HR.out]; simp [h1]
    subst hr
    go_wp2_with fail
    go_ret
    exact ⟨by first | rfl | simp, rfl⟩

theorem config_same {F : Nat → Prop} {b : Nat} {s : St} {w : World} (h : Live F w b s) : Calls Try.prog 17 #[.pointer (some ⟨b, 0, none⟩)] w fun e w' => e = .returned (.int .i64 s.table.length) ∧ w = w' := by
  obtain ⟨L, rfl, h2, h3⟩ := h; exact Config_same L s w h2
theorem master_drew {F : Nat → Prop} {b : Nat} {s : St} {w : World} (h : Live F w b s) (hn : 0 < s.table.length) (hm : s.table.length ≤ 1000) : Calls Try.prog 16 #[.pointer (some ⟨b, 0, none⟩)] w fun e w' => e = .returned (.int .i64 (ep s.table (s.table.length - 1)).m) ∧ ∃ n, w' = w.drewN n := by
  obtain ⟨L, rfl, h2, h3⟩ := h; exact Master_drew L s w h2 hn hm
theorem base_live {F : Nat → Prop} {b : Nat} {s : St} {w : World} (h : Live F w b s) : Calls Try.prog 29 #[.pointer (some ⟨b, 0, none⟩)] w fun e w' => e = .returned (.agg (posCells s.base.pos)) ∧ Below w.heap.size w w' := by
  obtain ⟨L, rfl, h2, h3⟩ := h; exact Base_any L s w h2

end Go.Proofs.Ytedcdjlpogpgbaa
