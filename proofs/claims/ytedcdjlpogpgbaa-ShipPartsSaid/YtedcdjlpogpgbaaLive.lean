/- A state that a law holds by its pointer alone, apart from the law's own blocks F. -/
import Derived.Test.YtedcdjlpogpgbaaSmall
import Derived.Test.YtedcdjlpogpgbaaApplyA
set_option linter.unusedVariables false
set_option linter.unusedSimpArgs false
namespace Go.Proofs.Ytedcdjlpogpgbaa
open Go.RowKit

def Live (F : Nat → Prop) (w : World) (b : Nat) (s : St) : Prop := ∃ L : Lay, L.b = b ∧ StAt w L s ∧ ∀ c, L.foot c → ¬ F c
theorem Live.below {F : Nat → Prop} {w w' : World} {b : Nat} {s : St} (h : Live F w b s) (f : Below w.heap.size w w') : Live F w' b s := by
  obtain ⟨L, h1, h2, h3⟩ := h; exact ⟨L, h1, h2.below f, h3⟩
theorem Live.mono {F G : Nat → Prop} {w : World} {b : Nat} {s : St} (h : Live F w b s) (k : ∀ c, G c → F c) : Live G w b s := by
  obtain ⟨L, h1, h2, h3⟩ := h; exact ⟨L, h1, h2, fun c hc hg => h3 c hc (k c hg)⟩
/-- A new block of the law's own. -/
theorem Live.box {F : Nat → Prop} {w w' : World} {b : Nat} {s : St} (h : Live F w b s) (f : Below w.heap.size w w') : Live (fun c => F c ∨ c = w.heap.size) w' b s := by
  obtain ⟨L, h1, h2, h3⟩ := h
  refine ⟨L, h1, h2.below f, fun c hc hg => ?_⟩
  rcases hg with hg | hg
  · exact h3 c hc hg
  · have := h2.lt c hc; omega
theorem Live.lt {F : Nat → Prop} {w : World} {b : Nat} {s : St} (h : Live F w b s) : b < w.heap.size := by
  obtain ⟨L, h1, h2, h3⟩ := h; rw [← h1]; exact h2.lt _ (.inl rfl)
theorem Live.frm {F G : Nat → Prop} {w w' : World} {b : Nat} {s : St} (h : Live F w b s) (f : Frm G w w') (k : ∀ c, G c → F c) : Live F w' b s := by
  obtain ⟨L, h1, h2, h3⟩ := h
  exact ⟨L, h1, h2.frm f (fun c hc hg => h3 c hc (k c hg)), h3⟩
theorem Frm.belowB {B : Nat} {w w' : World} (h : Frm (fun c => ¬ c < B) w w') (hB : B ≤ w.heap.size) : Below B w w' := ⟨h.os, h.tape, h.output, h.size, fun k hk => h.block k (by omega) (fun hn => hn hk)⟩
theorem Frm.belowF {B : Nat} {F : Nat → Prop} {w w' : World} (h : Frm (fun c => ¬ F c) w w') (hF : ∀ c, c < B → F c) (hB : B ≤ w.heap.size) : Below B w w' := ⟨h.os, h.tape, h.output, h.size, fun k hk => h.block k (by omega) (fun hn => hn (hF k hk))⟩
def LiveRes (F : Nat → Prop) (b : Nat) (n : Int) (s' : St) (w : World) (e : Ending) (w' : World) : Prop := e = .returned (.int .i64 n) ∧ Live F w' b s' ∧ Frm (fun c => ¬ F c) w w'
theorem Moved.live {F : Nat → Prop} {w w' : World} {L L' : Lay} {s' : St} (h : Moved w w' L L' s') (hL : ∀ c, L.foot c → ¬ F c) (hF : ∀ c, F c → c < w.heap.size) : Live F w' L.b s' ∧ Frm (fun c => ¬ F c) w w' := by
  refine ⟨⟨L', h.b, h.at_, fun c hc hf => ?_⟩, h.frm.mono fun i _ hi => hL i hi⟩
  rcases h.foot c hc with k | k
  · exact hL c k hf
  · have := hF c hf; omega

theorem write_live {F : Nat → Prop} {b : Nat} {s : St} (x : Ent) (e : Ep) (cfg : Int) (sp : Pos) (A B : Option Addr) (na ca nb cb : Nat) (w : World) (h : Live F w b s) (hF : ∀ c, F c → c < w.heap.size) (hok : Ok s) (hx : Small x) (hyes : checkW s x = 0) (hen : s.ents.length ≤ 1000) :
    Calls Try.prog 13 #[.pointer (some ⟨b, 0, none⟩), .agg (recVal 1 x e cfg sp (.slice A na ca) (.slice B nb cb))] w (LiveRes F b 0 (wroteF s x) w) := by
  obtain ⟨L, rfl, h2, h3⟩ := h
  refine (Apply_write_yes L s x e cfg sp A B na ca nb cb w h2 hok hx hyes hen).mono fun e w' hr => ?_
  obtain ⟨hr, L', hm⟩ := hr
  exact ⟨hr, hm.live h3 hF⟩
theorem write_live_no {F : Nat → Prop} {b : Nat} {s : St} (x : Ent) (e : Ep) (cfg : Int) (sp : Pos) (A B : Option Addr) (na ca nb cb : Nat) (w : World) (n : Int) (h : Live F w b s) (hF : ∀ c, F c → c < w.heap.size) (hok : Ok s) (hx : Small x) (hn : checkW s x = n) (hno : n ≠ 0) :
    Calls Try.prog 13 #[.pointer (some ⟨b, 0, none⟩), .agg (recVal 1 x e cfg sp (.slice A na ca) (.slice B nb cb))] w (LiveRes F b n s w) := by
  obtain ⟨L, rfl, h2, h3⟩ := h
  subst hn
  refine (Apply_write_no L s x e cfg sp A B na ca nb cb w h2 hok hx hno).mono fun e w' hr => ?_
  obtain ⟨hr, L', hm⟩ := hr
  exact ⟨hr, hm.live h3 hF⟩
theorem adopt_live {F : Nat → Prop} {b : Nat} {s : St} (x : Ent) (e : Ep) (cfg : Int) (sp : Pos) (A B : Option Addr) (na ca nb cb : Nat) (w : World) (h : Live F w b s) (hF : ∀ c, F c → c < w.heap.size) (hok : Ok s) (hr : rightB (s.table ++ [e]) = true) :
    Calls Try.prog 13 #[.pointer (some ⟨b, 0, none⟩), .agg (recVal 2 x e cfg sp (.slice A na ca) (.slice B nb cb))] w (LiveRes F b 0 (adoptF s e) w) := by
  obtain ⟨L, rfl, h2, h3⟩ := h
  refine (Apply_adopt_yes L s x e cfg sp A B na ca nb cb w h2 hok hr).mono fun e w' hr => ?_
  obtain ⟨hr, L', hm⟩ := hr
  exact ⟨hr, hm.live h3 hF⟩
theorem last_live {F : Nat → Prop} {b : Nat} {s : St} {w : World} (h : Live F w b s) : Calls Try.prog 15 #[.pointer (some ⟨b, 0, none⟩)] w fun e w' => e = .returned (.agg (posCells s.pos)) ∧ Below w.heap.size w w' := by
  obtain ⟨L, rfl, h2, h3⟩ := h; exact Last_any L s w h2
theorem config_live {F : Nat → Prop} {b : Nat} {s : St} {w : World} (h : Live F w b s) : Calls Try.prog 17 #[.pointer (some ⟨b, 0, none⟩)] w fun e w' => e = .returned (.int .i64 s.table.length) ∧ Below w.heap.size w w' := by
  obtain ⟨L, rfl, h2, h3⟩ := h; exact Config_any L s w h2
theorem get_live {F : Nat → Prop} {b : Nat} {s : St} {w : World} (key : ByteArray) (h : Live F w b s) : Calls Try.prog 18 #[.pointer (some ⟨b, 0, none⟩), .string key] w fun e w' => e = .returned (.agg (valCells ((getL key s.keys).getD zeroVal))) ∧ Below w.heap.size w w' := by
  obtain ⟨L, rfl, h2, h3⟩ := h; exact Get_state L s key w h2
theorem master_live {F : Nat → Prop} {b : Nat} {s : St} {w : World} (h : Live F w b s) (hn : 0 < s.table.length) (hm : s.table.length ≤ 1000) : Calls Try.prog 16 #[.pointer (some ⟨b, 0, none⟩)] w fun e w' => e = .returned (.int .i64 (ep s.table (s.table.length - 1)).m) ∧ Below w.heap.size w w' := by
  obtain ⟨L, rfl, h2, h3⟩ := h; exact Master_any L s w h2 hn hm
theorem new_live (v : Value) (t : List Ep) (w : World) (ht : SlAt w v t.length (epsCells t)) (hr : rightB t = true) :
    Calls Try.prog 12 #[v] w fun e w' => ∃ b, e = .returned (.tuple #[.pointer (some ⟨b, 0, none⟩), .int .i64 0]) ∧ Live (fun c => c < w.heap.size) w' b (logSt [] t) ∧ Below w.heap.size w w' := by
  refine (New_yes v t w ht hr).mono fun e w' hr => ?_
  obtain ⟨L, h1, h2, h3, h4⟩ := hr
  exact ⟨L.b, h1, ⟨L, rfl, h2, fun c hc hl => by have := h3 c hc; omega⟩, h4⟩
theorem wrote_log (E : List Ent) (t : List Ep) (x : Ent) : wroteF (logSt E t) x = logSt (E ++ [x]) t := logSt_snoc E t x

end Go.Proofs.Ytedcdjlpogpgbaa
