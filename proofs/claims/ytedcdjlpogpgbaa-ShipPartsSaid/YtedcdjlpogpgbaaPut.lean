/- Layer 15: (*fold).put. -/
import Derived.Test.YtedcdjlpogpgbaaEq
set_option linter.unusedVariables false
set_option linter.unusedSimpArgs false
namespace Go.Proofs.Ytedcdjlpogpgbaa
open Go.RowKit

theorem Blk.type {w : World} {a : Nat} {cs cs' : Array Value} {t t' : TypeId} (h : Blk w a cs t) (k : Blk w a cs' t') : t = t' := by
  unfold Blk at h k; rw [h] at k; simp at k; exact k.2
theorem Blk.notMap {w : World} {a : Nat} {cs : Array Value} {t : TypeId} {l : List (Value × Value)} (h : Blk w a cs t) (k : MpAt w a l) : False := by
  obtain ⟨es, cl, hm, _⟩ := k
  unfold Blk at h; rw [h] at hm; cases hm
theorem T.At.blk {w : World} {b : Nat} : ∀ {t : T}, t.At w → b ∈ t.blocks → ∃ cs, Blk w b cs 157
  | .nil, _, h => by simp [T.blocks] at h
  | .node c k v lev l r, h, hb => by
    simp only [T.blocks, List.mem_cons, List.mem_append] at hb
    rcases hb with rfl | hb | hb
    · exact ⟨_, h.1⟩
    · exact T.At.blk h.2.1 hb
    · exact T.At.blk h.2.2 hb
/-- Two blocks of two types are two. -/
theorem Blk.ne {w : World} {a c : Nat} {cs cs' : Array Value} {t t' : TypeId} (h : Blk w a cs t) (k : Blk w c cs' t') (hne : t ≠ t') : a ≠ c := fun e => by subst e; exact hne (h.type k)
theorem Blk.neMap {w : World} {a c : Nat} {cs : Array Value} {t : TypeId} {l : List (Value × Value)} (h : Blk w a cs t) (k : MpAt w c l) : a ≠ c := fun e => by subst e; exact h.notMap k
theorem Blk.notTree {w : World} {a : Nat} {cs : Array Value} {ty : TypeId} {t : T} (h : Blk w a cs ty) (k : t.At w) (hne : ty ≠ 157) : a ∉ t.blocks := fun hm => by
  obtain ⟨cs', hb⟩ := T.At.blk k hm; exact hne (h.type hb)
theorem MpAt.notTree {w : World} {a : Nat} {l : List (Value × Value)} {t : T} (h : MpAt w a l) (k : t.At w) : a ∉ t.blocks := fun hm => by
  obtain ⟨cs', hb⟩ := T.At.blk k hm; exact hb.notMap h

def entV (x : Ent) : Val := ⟨x.pos, !x.d, x.t⟩
def entS (x : Ent) : Sn := ⟨x.s, x.r, x.pos⟩
def noteIf (l : List Sn) (x : Sn) : List Sn := if (look 16 l x.s x.r).1 = 1 then note x l else l
structure PutDone (b kb sb mb : Nat) (t : T) (l : List Sn) (x : Ent) (cs : Array Value) (ty : TypeId) (w w' : World) (t' : T) : Prop where
  fold : FoldAt w' kb sb mb t' (noteIf l (entS x))
  list : t'.list = ins x.k (entV x) t.list
  blk : Blk w' b ((cs.setIfInBounds 0 (.int .i64 x.pos.e)).setIfInBounds 1 (.int .i64 x.pos.i)) ty
  blocks : ∀ c ∈ t'.blocks, c ∈ t.blocks ∨ w.heap.size ≤ c
  frm : Frm (fun c => c = b ∨ c = kb ∨ c ∈ t.blocks ∨ c = mb) w w'
def PutRes (b kb sb mb : Nat) (t : T) (l : List Sn) (x : Ent) (cs : Array Value) (ty : TypeId) (w : World) (e : Ending) (w' : World) : Prop :=
  e = .returned (.tuple #[]) ∧ ∃ t', PutDone b kb sb mb t l x cs ty w w' t'

set_option maxRecDepth 100000 in
set_option maxHeartbeats 8000000 in
theorem put_any (b kb sb mb : Nat) (t : T) (l : List Sn) (x : Ent) (cs : Array Value) (ty : TypeId) (w : World) (hb : Blk w b cs ty) (h2 : cs[2]? = some (.pointer (some ⟨kb, 0, none⟩))) (h3 : cs[3]? = some (.pointer (some ⟨sb, 0, none⟩))) (h0 : cs.size ≥ 4)
    (hf : FoldAt w kb sb mb t l) (n1 : b ≠ kb) (n2 : b ∉ t.blocks) (n3 : b ≠ sb) (n4 : b ≠ mb) :
    Calls Try.prog 46 #[.pointer (some ⟨b, 0, none⟩), .agg (entVal x)] w (PutRes b kb sb mb t l x cs ty w) := by
  have HF := Lib.hid hf
  have HB := Lib.hid hb
  have hbl := hb.lt
  have c2 : w.cell? ⟨b, 2, none⟩ = some (.pointer (some ⟨kb, 0, none⟩)) := by rw [hb.cell]; exact h2
  have c3 : w.cell? ⟨b, 3, none⟩ = some (.pointer (some ⟨sb, 0, none⟩)) := by rw [hb.cell]; exact h3
  obtain ⟨o0, c0⟩ : ∃ o, w.cell? ⟨b, 0, none⟩ = some o := ⟨cs[0], by rw [hb.cell]; simp⟩
  obtain ⟨o1, c1⟩ : ∃ o, w.cell? ⟨b, 1, none⟩ = some o := ⟨cs[1], by rw [hb.cell]; simp⟩
  have f0 := Blk.free hb 0
  have f1 := Blk.free hb 1
  have H2 := Lib.hid h2
  have H3 := Lib.hid h3
  clear hb hf h2 h3
  unfold entVal
  have hset : ∀ W : World, Frm (fun c => c = b) w W → Calls Try.prog 70 #[.pointer (some ⟨kb, 0, none⟩), .string x.k, .agg #[.int .i64 x.pos.e, .int .i64 x.pos.i, .bool (!x.d), .string x.t]] W (MapDone kb x.k (entV x) t W) :=
    fun W hW => Set_any kb t x.k (entV x) W (HF.out.keys.frm hW (fun h => n1 h.symm) (fun c hc h => n2 (h ▸ hc)))
  have HSET := Lib.hid hset
  clear hset
  have tl := HF.out.keys.lt
  have htl : ∀ c ∈ t.blocks, c ≠ w.heap.size := fun c hc e => by have := tl.2 c hc; omega
  have HTL := Lib.hid htl
  have hkbs : kb ≠ w.heap.size := by have := tl.1; omega
  clear htl tl
  go_enter Try.func46, Try.ntmps46
  go_wp2_with fail
  refine wp_abs ?_
  intro w1 hw1
  have F1 : Frm (fun c => c = b) w w1 := by rw [hw1]; (repeat' (first | with_reducible exact Frm.refl _ _ | with_reducible refine Frm.drewN ?_ _ | with_reducible refine Frm.drew ?_ | with_reducible refine Frm.setCell ?_ (by first | exact Or.inl rfl | exact Or.inr (Nat.le_refl _) | (simp; done) | (simp; omega)) _ | with_reducible refine Frm.alloc ?_ _ | exact Frm.refl _ _))
  have B1 : Blk w1 b ((cs.setIfInBounds 0 (.int .i64 x.pos.e)).setIfInBounds 1 (.int .i64 x.pos.i)) ty := by rw [hw1]; exact ((HB.out.set 0 _).set 1 _).alloc _
  have K1 : Blk w1 w.heap.size (entVal x) 35 := by rw [hw1]; exact Blk.new' (by simp) rfl
  clear hw1
  have b2 : w1.cell? ⟨b, 2, none⟩ = some (.pointer (some ⟨kb, 0, none⟩)) := by rw [B1.cell]; simp [H2.out]
  have k0 : World.cell? w1 ⟨w.heap.size, 0, none⟩ = some (.int .i64 x.pos.e) := by rw [Blk.cell K1]; rfl
  have k1 : World.cell? w1 ⟨w.heap.size, 1, none⟩ = some (.int .i64 x.pos.i) := by rw [Blk.cell K1]; rfl
  have k2 : World.cell? w1 ⟨w.heap.size, 2, none⟩ = some (.int .i64 x.s) := by rw [Blk.cell K1]; rfl
  have k3 : World.cell? w1 ⟨w.heap.size, 3, none⟩ = some (.int .i64 x.r) := by rw [Blk.cell K1]; rfl
  have k4 : World.cell? w1 ⟨w.heap.size, 4, none⟩ = some (.string x.k) := by rw [Blk.cell K1]; rfl
  have k5 : World.cell? w1 ⟨w.heap.size, 5, none⟩ = some (.bool x.d) := by rw [Blk.cell K1]; rfl
  have k6 : World.cell? w1 ⟨w.heap.size, 6, none⟩ = some (.string x.t) := by rw [Blk.cell K1]; rfl
  have hbl1 := B1.lt
  have hkl1 := K1.lt
  have HF1 := Lib.hid F1
  have HB1 := Lib.hid B1
  have HK1 := Lib.hid K1
  clear F1 B1 K1 c0 c1 c2 c3 f0 f1
  go_region_held3 (fun W => W.cell? ⟨b, 2, none⟩ = some (.pointer (some ⟨kb, 0, none⟩)) ∧ W.cell? ⟨w.heap.size, 0, none⟩ = some (.int .i64 x.pos.e) ∧ W.cell? ⟨w.heap.size, 1, none⟩ = some (.int .i64 x.pos.i) ∧ W.cell? ⟨w.heap.size, 4, none⟩ = some (.string x.k) ∧ W.cell? ⟨w.heap.size, 5, none⟩ = some (.bool x.d) ∧ W.cell? ⟨w.heap.size, 6, none⟩ = some (.string x.t)) (first | go_keep)
    (first | (go_at_call 70; refine (HSET.out _ (by (repeat' (first | with_reducible exact HF1.out | with_reducible exact Frm.refl _ _ | with_reducible refine Frm.drewN ?_ _ | with_reducible refine Frm.drew ?_ | with_reducible refine Frm.setCell ?_ (by first | exact Or.inl rfl | exact Or.inr (Nat.le_refl _) | (simp; done) | (simp; omega)) _ | with_reducible refine Frm.alloc ?_ _ | exact Frm.refl _ _ | exact HF1.out)))).mono ?_; rintro e w2 ⟨bb, t', rfl, hm, hl, hbk, hfr⟩; (have B2 := HB1.out.drew.frm hfr (by intro h; rcases h with h | h; exact n1 h; exact n2 h)); (have K2 := HK1.out.drew.frm hfr (by intro h; rcases h with h | h; exact hkbs h.symm; exact HTL.out _ h rfl)); clear b2 k0 k1 k2 k3 k4 k5 k6; (have k0 : World.cell? w2 ⟨w.heap.size, 0, none⟩ = some (.int .i64 x.pos.e) := by rw [Blk.cell K2]; rfl); (have k1 : World.cell? w2 ⟨w.heap.size, 1, none⟩ = some (.int .i64 x.pos.i) := by rw [Blk.cell K2]; rfl); (have k2 : World.cell? w2 ⟨w.heap.size, 2, none⟩ = some (.int .i64 x.s) := by rw [Blk.cell K2]; rfl); (have k3 : World.cell? w2 ⟨w.heap.size, 3, none⟩ = some (.int .i64 x.r) := by rw [Blk.cell K2]; rfl); (have k4 : World.cell? w2 ⟨w.heap.size, 4, none⟩ = some (.string x.k) := by rw [Blk.cell K2]; rfl); (have k5 : World.cell? w2 ⟨w.heap.size, 5, none⟩ = some (.bool x.d) := by rw [Blk.cell K2]; rfl); (have k6 : World.cell? w2 ⟨w.heap.size, 6, none⟩ = some (.string x.t) := by rw [Blk.cell K2]; rfl); (have b2 : w2.cell? ⟨b, 2, none⟩ = some (.pointer (some ⟨kb, 0, none⟩)) := by rw [B2.cell]; simp [H2.out]); (have b3 : w2.cell? ⟨b, 3, none⟩ = some (.pointer (some ⟨sb, 0, none⟩)) := by rw [B2.cell]; simp [H3.out]); (have HFR := Lib.hid hfr); (have HM := Lib.hid hm); (have HL := Lib.hid hl); (have HBK := Lib.hid hbk); (have HB2 := Lib.hid B2); (have HK2 := Lib.hid K2); (have hbl2 := B2.lt); (have hkl2 := K2.lt); clear hfr hm hl hbk B2 K2))
  have hfr2 : Frm (fun c => c = b ∨ c = kb ∨ c ∈ t.blocks) w w2 := (HF1.out.mono (fun i _ h => .inl h)).trans (Frm.trans (Frm.refl (fun c => c = kb ∨ c ∈ t.blocks) _).drew HFR.out (fun i _ h => h)) (fun i _ h => .inr h)
  have hft2 : TabAt w2 sb mb 16 l := HF.out.seen.frm hfr2 (by obtain ⟨n, hk⟩ := HF.out.keys.blk; rintro (h | h | h); exact n3 h.symm; exact (HF.out.seen.blk.ne hk (by decide)) h; exact HF.out.seen.blk.notTree HF.out.keys.tree (by decide) h) (by obtain ⟨n, hk⟩ := HF.out.keys.blk; rintro (h | h | h); exact n4 h.symm; exact hk.neMap HF.out.seen.map h.symm; exact HF.out.seen.map.notTree HF.out.keys.tree h)
  have HFT := Lib.hid hft2
  have HFR2 := Lib.hid hfr2
  clear hft2 hfr2
  go_wp2_with fail
  go_region_held3 (fun W => W.cell? ⟨b, 3, none⟩ = some (.pointer (some ⟨sb, 0, none⟩)) ∧ W.cell? ⟨w.heap.size, 0, none⟩ = some (.int .i64 x.pos.e) ∧ W.cell? ⟨w.heap.size, 1, none⟩ = some (.int .i64 x.pos.i) ∧ W.cell? ⟨w.heap.size, 2, none⟩ = some (.int .i64 x.s) ∧ W.cell? ⟨w.heap.size, 3, none⟩ = some (.int .i64 x.r)) (first | go_keep)
    (first | (go_at_call 71; refine (Note_any sb mb 16 l (entS x) _ (HFT.out.frm (F := fun _ => False) (Frm.refl _ _).drew (fun h => h) (fun h => h))).mono ?_; rintro e w3 ⟨bb2, rfl, hn, hfr3⟩; (have B3 := HB2.out.drew.frm hfr3 n4); (have K3 := HK2.out.drew.frm hfr3 (fun h => by have := HF.out.seen.map.lt; omega)); clear b2 b3 k0 k1 k2 k3 k4 k5 k6; (have k0 : World.cell? w3 ⟨w.heap.size, 0, none⟩ = some (.int .i64 x.pos.e) := by rw [Blk.cell K3]; rfl); (have k1 : World.cell? w3 ⟨w.heap.size, 1, none⟩ = some (.int .i64 x.pos.i) := by rw [Blk.cell K3]; rfl); (have k2 : World.cell? w3 ⟨w.heap.size, 2, none⟩ = some (.int .i64 x.s) := by rw [Blk.cell K3]; rfl); (have k3 : World.cell? w3 ⟨w.heap.size, 3, none⟩ = some (.int .i64 x.r) := by rw [Blk.cell K3]; rfl); (have b3 : w3.cell? ⟨b, 3, none⟩ = some (.pointer (some ⟨sb, 0, none⟩)) := by rw [B3.cell]; simp [H3.out])))
  go_wp2_with fail
  go_end0
  have hd : ∀ F : Nat → Prop, Frm F w2 w2.drew := fun F => (Frm.refl F _).drew
  have hm2 : MapAt w3 kb t' := (HM.out.frm (hd (fun _ => False)) (fun h => h) (fun _ _ h => h)).frm hfr3 (by obtain ⟨n, hk⟩ := HM.out.blk; exact hk.neMap HFT.out.map) (fun c hc e => HFT.out.map.notTree HM.out.tree (e ▸ hc))
  refine ⟨rfl, t', ⟨hm2, hn⟩, HL.out, B3, ?_, ?_⟩
  · intro c hc
    rcases HBK.out c hc with h | h
    · exact .inl h
    · refine .inr (Nat.le_trans HF1.out.size ?_); simpa using h
  · refine (HFR2.out.mono (fun i _ h => ?_)).trans (Frm.trans (hd (fun c => c = mb)) hfr3 (fun i _ h => h)) (fun i _ h => ?_)
    · rcases h with h | h | h
      · exact .inl h
      · exact .inr (.inl h)
      · exact .inr (.inr (.inl h))
    · exact .inr (.inr (.inr h))

end Go.Proofs.Ytedcdjlpogpgbaa
