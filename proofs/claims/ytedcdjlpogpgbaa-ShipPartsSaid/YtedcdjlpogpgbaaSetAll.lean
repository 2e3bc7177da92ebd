/- Layer 5's tree: what the putting in of a key comes to, for every search tree. -/
import Derived.Test.YtedcdjlpogpgbaaSet
set_option linter.unusedVariables false
set_option linter.unusedSimpArgs false
namespace Go.Proofs.Ytedcdjlpogpgbaa
open Go.RowKit

theorem T.skew_list (t : T) : t.skew.list = t.list := by
  unfold T.skew
  split
  · split <;> simp [T.list]
  · rfl
theorem T.split_list (t : T) : t.split.list = t.list := by
  unfold T.split
  split
  · split <;> simp [T.list]
  · rfl
theorem T.skew_blocks (t : T) : t.skew.blocks.Perm t.blocks := by
  unfold T.skew
  split
  · split
    · rw [List.perm_iff_count]; intro a; simp only [T.blocks, List.count_cons, List.count_append]; omega
    · exact List.Perm.refl _
  · exact List.Perm.refl _
theorem T.split_blocks (t : T) : t.split.blocks.Perm t.blocks := by
  unfold T.split
  split
  · split
    · rw [List.perm_iff_count]; intro a; simp only [T.blocks, List.count_cons, List.count_append]; omega
    · exact List.Perm.refl _
  · exact List.Perm.refl _

def ins (key : ByteArray) (x : Val) : List (ByteArray × Val) → List (ByteArray × Val)
  | [] => [(key, x)]
  | (k, y) :: l => if lt key k = true then (key, x) :: (k, y) :: l else if lt k key = true then (k, y) :: ins key x l else (k, x) :: l
def Up (l : List (ByteArray × Val)) : Prop := l.Pairwise (fun a b => lt a.1 b.1 = true)

theorem ins_left (key : ByteArray) (x : Val) (k : ByteArray) (v : Val) (r : List (ByteArray × Val)) (h : lt key k = true) : ∀ l, ins key x (l ++ (k, v) :: r) = ins key x l ++ (k, v) :: r
  | [] => by simp [ins, h]
  | (a, y) :: l => by
    simp only [List.cons_append, ins]
    split
    · rfl
    · split
      · rw [ins_left key x k v r h l]; rfl
      · rfl
theorem ins_right (key : ByteArray) (x : Val) (k : ByteArray) (v : Val) (r : List (ByteArray × Val)) (h : lt k key = true) : ∀ l, (∀ a ∈ l, lt a.1 k = true) → ins key x (l ++ (k, v) :: r) = l ++ (k, v) :: ins key x r
  | [], _ => by simp [ins, h, lt_asymm h]
  | (a, y) :: l, ha => by
    have h1 : lt a key = true := lt_trans (ha _ (List.mem_cons_self ..)) h
    simp only [List.cons_append, ins]
    rw [if_neg (by rw [lt_asymm h1]; simp), if_pos h1, ins_right key x k v r h l (fun b hb => ha b (List.mem_cons_of_mem _ hb))]
theorem ins_same (k : ByteArray) (x v : Val) (r : List (ByteArray × Val)) : ∀ l, (∀ a ∈ l, lt a.1 k = true) → ins k x (l ++ (k, v) :: r) = l ++ (k, x) :: r
  | [], _ => by simp [ins, lt_irr]
  | (a, y) :: l, ha => by
    have h1 : lt a k = true := ha _ (List.mem_cons_self ..)
    simp only [List.cons_append, ins]
    rw [if_neg (by rw [lt_asymm h1]; simp), if_pos h1, ins_same k x v r l (fun b hb => ha b (List.mem_cons_of_mem _ hb))]

theorem Up.node {l r : List (ByteArray × Val)} {k : ByteArray} {v : Val} (h : Up (l ++ (k, v) :: r)) : Up l ∧ Up r ∧ (∀ a ∈ l, lt a.1 k = true) ∧ (∀ a ∈ r, lt k a.1 = true) := by
  unfold Up at *
  rw [List.pairwise_append, List.pairwise_cons] at h
  exact ⟨h.1, h.2.1.2, fun a ha => h.2.2 a ha _ (List.mem_cons_self ..), fun a ha => h.2.1.1 a ha⟩

theorem T.set_list (nb : Nat) (key : ByteArray) (x : Val) : ∀ t : T, Up t.list → (t.set nb key x).list = ins key x t.list
  | .nil, _ => rfl
  | .node b k v lev l r, h => by
    obtain ⟨h1, h2, h3, h4⟩ := Up.node h
    simp only [T.set]
    split
    · rename_i hl
      rw [T.split_list, T.skew_list]
      simp only [T.list]
      rw [T.set_list nb key x l h1, ins_left key x k v _ hl]
    · rename_i hl
      split
      · rename_i hg
        rw [T.split_list, T.skew_list]
        simp only [T.list]
        rw [T.set_list nb key x r h2, ins_right key x k v _ hg _ h3]
      · rename_i hg
        have e : key = k := lt_tri (by simpa using hl) (by simpa using hg)
        subst e
        simp only [T.list]
        rw [ins_same key x v _ _ h3]

theorem mem_ins (key : ByteArray) (x : Val) : ∀ (l : List (ByteArray × Val)) (p : ByteArray × Val), p ∈ ins key x l → p = (key, x) ∨ (p ∈ l) ∨ p.1 = key
  | [], p, h => by simp [ins] at h; exact .inl h
  | (k, y) :: l, p, h => by
    simp only [ins] at h
    split at h
    · simp only [List.mem_cons] at h ⊢; rcases h with h | h
      · exact .inl h
      · exact .inr (.inl h)
    · split at h
      · simp only [List.mem_cons] at h ⊢
        rcases h with h | h
        · exact .inr (.inl (.inl h))
        · rcases mem_ins key x l p h with h | h | h
          · exact .inl h
          · exact .inr (.inl (.inr h))
          · exact .inr (.inr h)
      · rename_i a b
        have e : key = k := lt_tri (by simpa using a) (by simpa using b)
        subst e
        simp only [List.mem_cons] at h ⊢
        rcases h with h | h
        · exact .inl h
        · exact .inr (.inl (.inr h))
theorem mem_ins' {key : ByteArray} {x : Val} {l : List (ByteArray × Val)} {p : ByteArray × Val} (h : p ∈ ins key x l) : p = (key, x) ∨ p ∈ l := by
  induction l with
  | nil => simp [ins] at h; exact .inl h
  | cons q l ih =>
    obtain ⟨k, y⟩ := q
    simp only [ins] at h
    split at h
    · simp only [List.mem_cons] at h ⊢; exact h
    · split at h
      · simp only [List.mem_cons] at h ⊢
        rcases h with h | h
        · exact .inr (.inl h)
        · rcases ih h with h | h
          · exact .inl h
          · exact .inr (.inr h)
      · rename_i a b
        have e : key = k := lt_tri (by simpa using a) (by simpa using b)
        subst e
        simp only [List.mem_cons] at h ⊢
        rcases h with h | h
        · exact .inl h
        · exact .inr (.inr h)
theorem Up.ins {key : ByteArray} {x : Val} : ∀ {l : List (ByteArray × Val)}, Up l → Up (ins key x l)
  | [], _ => by simp [Up, Proofs.Ytedcdjlpogpgbaa.ins]
  | (k, y) :: l, h => by
    unfold Up at *
    simp only [Proofs.Ytedcdjlpogpgbaa.ins]
    rw [List.pairwise_cons] at h
    split
    · rename_i hl
      rw [List.pairwise_cons, List.pairwise_cons]
      refine ⟨fun a ha => ?_, h⟩
      rcases List.mem_cons.1 ha with rfl | ha
      · exact hl
      · exact lt_trans hl (h.1 a ha)
    · split
      · rename_i hg
        rw [List.pairwise_cons]
        refine ⟨fun a ha => ?_, Up.ins h.2⟩
        rcases mem_ins' ha with rfl | ha
        · exact hg
        · exact h.1 a ha
      · rw [List.pairwise_cons]; exact h

theorem T.set_blocks (nb : Nat) (key : ByteArray) (x : Val) : ∀ t : T, (t.set nb key x).blocks.Perm t.blocks ∨ (t.set nb key x).blocks.Perm (nb :: t.blocks)
  | .nil => .inr (List.Perm.refl _)
  | .node b k v lev l r => by
    simp only [T.set]
    split
    · have e := (T.split_blocks (T.skew (.node b k v lev (l.set nb key x) r))).trans (T.skew_blocks _)
      rcases T.set_blocks nb key x l with h | h
      · refine .inl (e.trans ?_)
        simp only [T.blocks]
        exact (h.append_right _).cons _
      · refine .inr (e.trans ?_)
        simp only [T.blocks]
        refine ((h.append_right _).cons _).trans ?_
        simp only [List.cons_append]
        exact List.Perm.swap ..
    · split
      · have e := (T.split_blocks (T.skew (.node b k v lev l (r.set nb key x)))).trans (T.skew_blocks _)
        rcases T.set_blocks nb key x r with h | h
        · refine .inl (e.trans ?_)
          simp only [T.blocks]
          exact (h.append_left _).cons _
        · refine .inr (e.trans ?_)
          simp only [T.blocks]
          refine ((h.append_left _).cons _).trans ?_
          rw [List.perm_iff_count]; intro a; simp only [List.count_cons, List.count_append]; omega
      · exact .inl (List.Perm.refl _)
theorem T.set_mem {nb : Nat} {key : ByteArray} {x : Val} {t : T} {b : Nat} (h : b ∈ (t.set nb key x).blocks) : b ∈ t.blocks ∨ b = nb := by
  rcases T.set_blocks nb key x t with e | e
  · exact .inl (e.mem_iff.1 h)
  · rcases List.mem_cons.1 (e.mem_iff.1 h) with h | h
    · exact .inr h
    · exact .inl h
theorem T.set_nodup {nb : Nat} {key : ByteArray} {x : Val} {t : T} (hd : t.blocks.Nodup) (hn : nb ∉ t.blocks) : (t.set nb key x).blocks.Nodup := by
  rcases T.set_blocks nb key x t with e | e
  · exact e.nodup_iff.2 hd
  · exact e.nodup_iff.2 (List.nodup_cons.2 ⟨hn, hd⟩)

def MapT : TypeId := 149
def SetDone (m : Nat) (r0 : Value) (key : ByteArray) (x : Val) (t : T) (w : World) (q : Option Addr) (w' : World) : Prop :=
  ∃ nb n', w.heap.size ≤ nb ∧ q = (t.set nb key x).ptr ∧ (t.set nb key x).At w' ∧ Blk w' m #[r0, .int .i64 n'] MapT ∧ Frm (fun b => b = m ∨ b ∈ t.blocks) w w'

theorem set_any (m : Nat) (r0 : Value) (key : ByteArray) (x : Val) : ∀ (t : T) (w : World) (n : Int), Blk w m #[r0, .int .i64 n] MapT → t.At w → t.blocks.Nodup → m ∉ t.blocks →
    Calls Try.prog 83 #[.pointer (some ⟨m, 0, none⟩), .pointer t.ptr, .string key, .agg (valCells x)] w (PtrRes (SetDone m r0 key x t w)) := by
  intro t
  induction t with
  | nil =>
    intro w n hm _ _ _
    refine (set_nil m key x n w hm.lt (by rw [hm.cell]; rfl) (hm.free 1)).mono fun e w' ⟨he, hw⟩ => ?_
    subst hw
    refine ⟨_, he, w.heap.size + 1, wrap64 (n + 1), by omega, rfl, ⟨?_, trivial, trivial⟩, ?_, ?_⟩
    · have := Blk.new (((w.setCell ⟨m, 1, none⟩ (.int .i64 (wrap64 (n + 1)))).alloc (.cells (valCells x) 46))) (placeCells key x 1 none none) 157
      show Blk _ _ (placeCells key x 1 none none) _
      simpa using this
    · exact ((hm.set 1 _).alloc _).alloc _
    · exact ((((Frm.refl _ w).setCell (p := ⟨m, 1, none⟩) (.inl (.inl rfl)) _).alloc _).alloc _)
  | node b k v lev l r ihl ihr =>
    intro w n hm ht hd hmb
    have hd0 := hd
    simp only [T.blocks, List.nodup_cons, List.mem_cons, List.mem_append, not_or, List.nodup_append] at hd hmb
    have step : ∀ (W W' : World) (t' : T), t'.At W' → t'.blocks.Nodup → (∀ c ∈ t'.blocks, c ∈ (T.node b k v lev l r).blocks ∨ w.heap.size ≤ c) → Frm (fun c => c = m ∨ c ∈ (T.node b k v lev l r).blocks) w W' → (∃ n', Blk W' m #[r0, .int .i64 n'] MapT) →
        (∀ nb, w.heap.size ≤ nb → True) →
        Calls Try.prog 95 #[.pointer t'.ptr] W' (PtrRes fun q2 w2 => Calls Try.prog 94 #[.pointer q2] w2 (PtrRes fun q3 w3 => q3 = (T.skew t').split.ptr ∧ (T.skew t').split.At w3 ∧ (∃ n', Blk w3 m #[r0, .int .i64 n'] MapT) ∧ Frm (fun c => c = m ∨ c ∈ (T.node b k v lev l r).blocks) w w3)) := by
      intro W W' t' h1 h2 h3 h4 ⟨n', h5⟩ _
      have hmt : m ∉ t'.blocks := fun h => by
        rcases h3 m h with h | h
        · simp only [T.blocks, List.mem_cons, List.mem_append] at h; grind
        · have := hm.lt; omega
      refine (skew_any t' W' h1 h2).mono fun e w2 ⟨he, ha, hf⟩ => ⟨_, he, ?_⟩
      have hp := T.skew_blocks t'
      refine (split_any t'.skew w2 ha (hp.nodup_iff.2 h2)).mono fun e w3 ⟨he, ha3, hf3⟩ => ⟨_, he, rfl, ha3, ⟨n', ?_⟩, ?_⟩
      · exact (h5.frm hf hmt).frm hf3 (fun h => hmt (hp.mem_iff.1 h))
      · refine (h4.trans hf ?_).trans hf3 ?_
        · intro i hi h; rcases h3 i h with h | h
          · exact .inr h
          · omega
        · intro i hi h; rcases h3 i (hp.mem_iff.1 h) with h | h
          · exact .inr h
          · omega
    have c0 : w.cell? ⟨b, 0, none⟩ = some (.string k) := by rw [ht.1.cell]; rfl
    have c6 : w.cell? ⟨b, 6, none⟩ = some (.pointer l.ptr) := by rw [ht.1.cell]; rfl
    have c7 : w.cell? ⟨b, 7, none⟩ = some (.pointer r.ptr) := by rw [ht.1.cell]; rfl
    by_cases hl : lt key k = true
    · refine (set_less m b key k x l.ptr w (fun q W => ∃ nb n', w.heap.size ≤ nb ∧ q = (l.set nb key x).ptr ∧ (l.set nb key x).At W ∧ Blk W m #[r0, .int .i64 n'] MapT ∧ Frm (fun c => c = m ∨ c ∈ l.blocks) w W) (SetDone m r0 key x (.node b k v lev l r) w) ht.1.lt c0 c6 hl ?_ ?_ ?_)
      · intro W hW
        refine (ihl W n (hm.below hW) (T.At.frm (Frm.ofBelow (F := fun _ => False) hW) ht.2.1 (fun _ _ h => h)) hd.2.1 (by grind)).mono fun e w' ⟨q, he, nb, n', h1, h2, h3, h4, h5⟩ => ⟨q, he, nb, n', by have := hW.size; omega, h2, h3, h4, (Frm.ofBelow hW).trans h5 (fun _ _ h => h)⟩
      · rintro q W ⟨nb, n', h1, h2, h3, h4, h5⟩
        have hb := ht.1.frm h5 (by grind)
        exact ⟨by rw [hb.cell]; rfl, hb.free 6⟩
      · rintro q W W' ⟨nb, n', h1, h2, h3, h4, h5⟩ ha htp
        have f6 : Frm (fun c => c = b) W W' := ((Frm.refl (fun c => c = b) W).setCell (p := ⟨b, 6, none⟩) (.inl rfl) _).alike ha htp
        have hlt := ht.1.lt
        have hbl := T.At.lt ht.2.1
        have hmem : ∀ c ∈ (l.set nb key x).blocks, c ∈ l.blocks ∨ c = nb := fun c hc => T.set_mem hc
        refine (step W W' (.node b k v lev (l.set nb key x) r) ⟨?_, ?_, ?_⟩ ?_ ?_ ?_ ⟨n', ?_⟩ (fun _ _ => trivial)).mono fun e w2 ⟨q2, he, hc⟩ => ⟨q2, he, hc.mono fun e w3 ⟨q3, he, g1, g2, ⟨n3, g3⟩, g4⟩ => ⟨q3, he, nb, n3, h1, ?_, ?_, g3, g4⟩⟩
        · subst h2; exact ((ht.1.frm h5 (by grind)).set 6 _).alike ha
        · exact T.At.frm f6 h3 (by rintro c hc rfl; rcases hmem _ hc with h | h <;> grind)
        · exact T.At.frm f6 (T.At.frm h5 ht.2.2 (by grind)) (by grind)
        · have hnb : nb ∉ l.blocks := fun h => by have := hbl nb h; omega
          have hnr : nb ∉ r.blocks := fun h => by have := T.At.lt ht.2.2 nb h; omega
          have hnd := T.set_nodup (nb := nb) (key := key) (x := x) hd.2.1 hnb
          simp only [T.blocks, List.nodup_cons, List.mem_append, not_or, List.nodup_append]
          refine ⟨⟨fun h => ?_, hd.1.2⟩, hnd, hd.2.2.1, fun c hc => ?_⟩
          · rcases hmem _ h with h | h
            · exact hd.1.1 h
            · omega
          · rcases hmem _ hc with h | h <;> grind
        · intro c hc
          simp only [T.blocks, List.mem_cons, List.mem_append] at hc ⊢
          rcases hc with h | h | h
          · exact .inl (.inl h)
          · rcases hmem _ h with h | h
            · exact .inl (.inr (.inl h))
            · exact .inr (by omega)
          · exact .inl (.inr (.inr h))
        · refine (h5.mono (G := fun c => c = m ∨ c ∈ (T.node b k v lev l r).blocks) ?_).trans f6 ?_
          · intro i hi h; simp only [T.blocks, List.mem_cons, List.mem_append]; grind
          · intro i hi h; simp only [T.blocks, List.mem_cons, List.mem_append]; grind
        · exact h4.frm f6 (by grind)
        · rw [g1]; simp only [T.set]; rw [if_pos hl]
        · simp only [T.set]; rw [if_pos hl]; exact g2
    · have hl' : Op.bytesLess key.toList k.toList = false := by simpa [lt] using hl
      by_cases hg : lt k key = true
      · have hne : (key.toList == k.toList) = false := by
          rw [beq_eq_false_iff_ne]; intro e; have e' := bytes_inj e; subst e'; rw [lt_irr] at hg; cases hg
        refine (set_great m b key k x r.ptr w (fun q W => ∃ nb n', w.heap.size ≤ nb ∧ q = (r.set nb key x).ptr ∧ (r.set nb key x).At W ∧ Blk W m #[r0, .int .i64 n'] MapT ∧ Frm (fun c => c = m ∨ c ∈ r.blocks) w W) (SetDone m r0 key x (.node b k v lev l r) w) ht.1.lt c0 c7 hl' hg hne ?_ ?_ ?_)
        · intro W hW
          refine (ihr W n (hm.below hW) (T.At.frm (Frm.ofBelow (F := fun _ => False) hW) ht.2.2 (fun _ _ h => h)) hd.2.2.1 (by grind)).mono fun e w' ⟨q, he, nb, n', h1, h2, h3, h4, h5⟩ => ⟨q, he, nb, n', by have := hW.size; omega, h2, h3, h4, (Frm.ofBelow hW).trans h5 (fun _ _ h => h)⟩
        · rintro q W ⟨nb, n', h1, h2, h3, h4, h5⟩
          have hb := ht.1.frm h5 (by grind)
          exact ⟨by rw [hb.cell]; rfl, hb.free 7⟩
        · rintro q W W' ⟨nb, n', h1, h2, h3, h4, h5⟩ ha htp
          have f6 : Frm (fun c => c = b) W W' := ((Frm.refl (fun c => c = b) W).setCell (p := ⟨b, 7, none⟩) (.inl rfl) _).alike ha htp
          have hlt := ht.1.lt
          have hbl := T.At.lt ht.2.2
          have hmem : ∀ c ∈ (r.set nb key x).blocks, c ∈ r.blocks ∨ c = nb := fun c hc => T.set_mem hc
          refine (step W W' (.node b k v lev l (r.set nb key x)) ⟨?_, ?_, ?_⟩ ?_ ?_ ?_ ⟨n', ?_⟩ (fun _ _ => trivial)).mono fun e w2 ⟨q2, he, hc⟩ => ⟨q2, he, hc.mono fun e w3 ⟨q3, he, g1, g2, ⟨n3, g3⟩, g4⟩ => ⟨q3, he, nb, n3, h1, ?_, ?_, g3, g4⟩⟩
          · subst h2; exact ((ht.1.frm h5 (by grind)).set 7 _).alike ha
          · exact T.At.frm f6 (T.At.frm h5 ht.2.1 (by grind)) (by grind)
          · exact T.At.frm f6 h3 (by rintro c hc rfl; rcases hmem _ hc with h | h <;> grind)
          · have hnb : nb ∉ r.blocks := fun h => by have := hbl nb h; omega
            have hnl : nb ∉ l.blocks := fun h => by have := T.At.lt ht.2.1 nb h; omega
            have hnd := T.set_nodup (nb := nb) (key := key) (x := x) hd.2.2.1 hnb
            simp only [T.blocks, List.nodup_cons, List.mem_append, not_or, List.nodup_append]
            refine ⟨⟨hd.1.1, fun h => ?_⟩, hd.2.1, hnd, fun a ha c hc => ?_⟩
            · rcases hmem _ h with h | h
              · exact hd.1.2 h
              · omega
            · rcases hmem _ hc with h | h <;> grind
          · intro c hc
            simp only [T.blocks, List.mem_cons, List.mem_append] at hc ⊢
            rcases hc with h | h | h
            · exact .inl (.inl h)
            · exact .inl (.inr (.inl h))
            · rcases hmem _ h with h | h
              · exact .inl (.inr (.inr h))
              · exact .inr (by omega)
          · refine (h5.mono (G := fun c => c = m ∨ c ∈ (T.node b k v lev l r).blocks) ?_).trans f6 ?_
            · intro i hi h; simp only [T.blocks, List.mem_cons, List.mem_append]; grind
            · intro i hi h; simp only [T.blocks, List.mem_cons, List.mem_append]; grind
          · exact h4.frm f6 (by grind)
          · rw [g1]; simp only [T.set]; rw [if_neg hl, if_pos hg]
          · simp only [T.set]; rw [if_neg hl, if_pos hg]; exact g2
      · have hg' : Op.bytesLess k.toList key.toList = false := by simpa [lt] using hg
        have e : key = k := lt_tri hl' hg'
        subst e
        refine (set_same m b key key x v lev l.ptr r.ptr w ht.1 hl' hg' (by simp)).mono fun e w' ⟨he, hb, hf⟩ => ?_
        have hs : T.set w.heap.size key x (.node b key v lev l r) = .node b key x lev l r := by simp only [T.set]; rw [if_neg hl, if_neg hg]
        refine ⟨_, he, w.heap.size, n, Nat.le_refl _, ?_, ?_, ?_, ?_⟩
        · rw [hs]; rfl
        · rw [hs]; exact ⟨hb, T.At.frm hf ht.2.1 (by grind), T.At.frm hf ht.2.2 (by grind)⟩
        · exact hm.frm hf (by grind)
        · exact hf.mono (by intro i hi h; simp only [T.blocks, List.mem_cons, List.mem_append]; grind)

end Go.Proofs.Ytedcdjlpogpgbaa
