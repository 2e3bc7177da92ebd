/- Layer 5's map: New, Set, From, Get by what the list of keys comes to. -/
import Derived.Test.YtedcdjlpogpgbaaSetAll
set_option linter.unusedVariables false
set_option linter.unusedSimpArgs false
namespace Go.Proofs.Ytedcdjlpogpgbaa
open Go.RowKit

structure MapAt (w : World) (m : Nat) (t : T) : Prop where
  blk : ∃ n : Int, Blk w m #[.pointer t.ptr, .int .i64 n] MapT
  tree : t.At w
  nodup : t.blocks.Nodup
  out : m ∉ t.blocks
  up : Up t.list
theorem MapAt.frm {F : Nat → Prop} {w w' : World} {m : Nat} {t : T} (h : MapAt w m t) (f : Frm F w w') (hm : ¬ F m) (ht : ∀ b ∈ t.blocks, ¬ F b) : MapAt w' m t := by
  obtain ⟨n, hn⟩ := h.blk
  exact ⟨⟨n, hn.frm f hm⟩, T.At.frm f h.tree ht, h.nodup, h.out, h.up⟩
theorem MapAt.lt {w : World} {m : Nat} {t : T} (h : MapAt w m t) : m < w.heap.size ∧ ∀ b ∈ t.blocks, b < w.heap.size := by
  obtain ⟨n, hn⟩ := h.blk
  exact ⟨hn.lt, T.At.lt h.tree⟩
def MapDone (m : Nat) (key : ByteArray) (x : Val) (t : T) (w : World) (e : Ending) (w' : World) : Prop :=
  ∃ (bb : Bool) (t' : T), e = .returned (.bool bb) ∧ MapAt w' m t' ∧ t'.list = ins key x t.list ∧ (∀ c ∈ t'.blocks, c ∈ t.blocks ∨ w.heap.size ≤ c) ∧ Frm (fun b => b = m ∨ b ∈ t.blocks) w w'

set_option maxHeartbeats 400000 in
theorem new_map (w : World) : Calls Try.prog 68 #[] w fun e w' => e = .returned (.pointer (some ⟨w.heap.size, 0, none⟩)) ∧ w' = w.alloc (.cells #[.pointer none, .int .i64 0] 149) := by
  go_enter Try.func68, Try.ntmps68
  go_wp2_with fail
  go_ret
  exact ⟨rfl, rfl⟩
theorem mapAt_new (w : World) : MapAt (w.alloc (.cells #[.pointer none, .int .i64 0] MapT)) w.heap.size .nil :=
  ⟨⟨0, Blk.new w _ _⟩, trivial, List.nodup_nil, by simp [T.blocks], by simp [Up, T.list]⟩

set_option maxHeartbeats 400000 in
theorem Set_walk (m : Nat) (r0 : Option Addr) (n : Int) (key : ByteArray) (x : Val) (w : World) (R : Option Addr → World → Prop) (R' : World → Prop)
    (hm : m < w.heap.size) (h0 : w.cell? ⟨m, 0, none⟩ = some (.pointer r0)) (h1 : w.cell? ⟨m, 1, none⟩ = some (.int .i64 n))
    (hc : ∀ W : World, Below w.heap.size w W → Calls Try.prog 83 #[.pointer (some ⟨m, 0, none⟩), .pointer r0, .string key, .agg (valCells x)] W (PtrRes R))
    (hw : ∀ q W, R q W → ∃ n2 : Int, W.cell? ⟨m, 0, none⟩ = some (.pointer r0) ∧ W.frozen? ⟨m, 0, none⟩ = false ∧ W.cell? ⟨m, 1, none⟩ = some (.int .i64 n2))
    (hs : ∀ q W W', R q W → W'.Alike (W.setCell ⟨m, 0, none⟩ (.pointer q)) → W'.tape = W.tape → R' W') :
    Calls Try.prog 70 #[.pointer (some ⟨m, 0, none⟩), .string key, .agg (valCells x)] w fun e w' => (∃ b : Bool, e = .returned (.bool b)) ∧ R' w' := by
  unfold valCells at *
  have HC := Lib.hid hc
  have HW := Lib.hid hw
  have HS := Lib.hid hs
  clear hc hw hs
  go_enter Try.func70, Try.ntmps70
  go_wp2_with fail
  go_region_with (go_at_call 83; refine (HC.out _ (((Below.refl _ _).alloc (Nat.le_refl _) _).drew)).mono ?_; rintro e w1 ⟨q, rfl, hr⟩; obtain ⟨n2, hw1, hw2, hw3⟩ := HW.out q w1 hr)
  all_goals
    go_wp2_with fail
    go_ret
    exact ⟨⟨_, rfl⟩, HS.out q w1 _ hr ⟨rfl, rfl, rfl⟩ rfl⟩

theorem Set_any (m : Nat) (t : T) (key : ByteArray) (x : Val) (w : World) (h : MapAt w m t) :
    Calls Try.prog 70 #[.pointer (some ⟨m, 0, none⟩), .string key, .agg (valCells x)] w (MapDone m key x t w) := by
  obtain ⟨n, hb⟩ := h.blk
  refine (Set_walk m t.ptr n key x w (SetDone m (.pointer t.ptr) key x t w) (fun w' => ∃ t', MapAt w' m t' ∧ t'.list = ins key x t.list ∧ (∀ c ∈ t'.blocks, c ∈ t.blocks ∨ w.heap.size ≤ c) ∧ Frm (fun b => b = m ∨ b ∈ t.blocks) w w') hb.lt (by rw [hb.cell]; rfl) (by rw [hb.cell]; rfl) ?_ ?_ ?_).mono ?_
  · intro W hW
    refine (set_any m (.pointer t.ptr) key x t W n (hb.below hW) (T.At.frm (Frm.ofBelow (F := fun _ => False) hW) h.tree (fun _ _ h => h)) h.nodup h.out).mono ?_
    rintro e w' ⟨q, he, nb, n', h1, h2, h3, h4, h5⟩
    exact ⟨q, he, nb, n', by have := hW.size; omega, h2, h3, h4, (Frm.ofBelow hW).trans h5 (fun _ _ h => h)⟩
  · rintro q W ⟨nb, n', h1, h2, h3, h4, h5⟩
    exact ⟨n', by rw [h4.cell]; rfl, h4.free 0, by rw [h4.cell]; rfl⟩
  · rintro q W W' ⟨nb, n', h1, h2, h3, h4, h5⟩ ha htp
    have f6 : Frm (fun c => c = m) W W' := ((Frm.refl (fun c => c = m) W).setCell (p := ⟨m, 0, none⟩) (.inl rfl) _).alike ha htp
    have hnb : nb ∉ t.blocks := fun hh => by have := T.At.lt h.tree nb hh; omega
    have hmn : ∀ c ∈ (t.set nb key x).blocks, c ≠ m := by
      intro c hc e
      subst e
      rcases T.set_mem hc with hc | hc
      · exact h.out hc
      · have := hb.lt; omega
    refine ⟨t.set nb key x, ⟨⟨n', ?_⟩, T.At.frm f6 h3 hmn, T.set_nodup h.nodup hnb, fun hh => hmn m hh rfl, ?_⟩, T.set_list nb key x t h.up, ?_, ?_⟩
    · subst h2; exact (h4.set 0 _).alike ha
    · rw [T.set_list nb key x t h.up]; exact Up.ins h.up
    · intro c hc
      rcases T.set_mem hc with hc | hc
      · exact .inl hc
      · exact .inr (by omega)
    · exact h5.trans f6 (fun i _ hi => .inl hi)
  · rintro e w' ⟨⟨bb, he⟩, t', g1, g2, g3, g4⟩
    exact ⟨bb, t', he, g1, g2, g3, g4⟩

def T.from (key : ByteArray) : T → Option (ByteArray × Val) → Option (ByteArray × Val)
  | .nil, best => best
  | .node _ k v _ l r, best => if lt k key = true then r.from key best else l.from key (some (k, v))
def T.count : T → Nat
  | .nil => 0
  | .node _ _ _ _ l r => l.count + r.count + 1
def BestAt (w : World) (p : Option Addr) : Option (ByteArray × Val) → Prop
  | none => p = none
  | some (k, v) => ∃ b lev l r, p = some ⟨b, 0, none⟩ ∧ Blk w b (placeCells k v lev l r) 157
theorem BestAt.below {w w' : World} (h : Below w.heap.size w w') {p : Option Addr} : ∀ {o : Option (ByteArray × Val)}, BestAt w p o → BestAt w' p o
  | none, hb => hb
  | some (k, v), ⟨b, lev, l, r, e, hb⟩ => ⟨b, lev, l, r, e, hb.below h⟩
theorem T.At.below {w w' : World} (h : Below w.heap.size w w') {t : T} (ht : t.At w) : t.At w' := T.At.frm (Frm.ofBelow (F := fun _ => False) h) ht (fun _ _ h => h)

theorem val_agg (w : World) : (isAgg 46).run Try.prog w = .ok true w := by kernel_rfl
theorem val_size (w : World) : (sizeOf 46).run Try.prog w = .ok 4 w := by kernel_rfl
def zeroVal : Val := ⟨⟨0, 0⟩, false, ⟨#[]⟩⟩
def FromRes (o : Option (ByteArray × Val)) (w : World) (e : Ending) (w' : World) : Prop :=
  e = .returned (match o with | none => .tuple #[.string ⟨#[]⟩, .agg (valCells zeroVal), .bool false] | some (k, v) => .tuple #[.string k, .agg (valCells v), .bool true]) ∧ Below w.heap.size w w'
def FromRel (key : ByteArray) (t : T) (w0 : World) (g : Nat) (bv pv : Value) (wr : World) : Prop :=
  ∃ (s : T) (bp : Option Addr) (o : Option (ByteArray × Val)), bv = .pointer bp ∧ pv = .pointer s.ptr ∧ s.At wr ∧ BestAt wr bp o ∧ s.from key o = t.from key none ∧ g = s.count ∧ Blk wr w0.heap.size (valCells zeroVal) 46 ∧ Below w0.heap.size w0 wr

set_option maxHeartbeats 1000000 in
theorem From_any (m : Nat) (t : T) (key : ByteArray) (w : World) (h : MapAt w m t) :
    Calls Try.prog 75 #[.pointer (some ⟨m, 0, none⟩), .string key] w (FromRes (t.from key none) w) := by
  obtain ⟨n, hb⟩ := h.blk
  have hm := hb.lt
  have c0 : w.cell? ⟨m, 0, none⟩ = some (.pointer t.ptr) := by rw [hb.cell]; rfl
  have ht := h.tree
  have HT := Lib.hid ht
  clear hb h ht
  go_enter Try.func75, Try.ntmps75
  go_wp2_with fail
  go_loopg [7, 8] t.count (fun g bv pv wr => FromRel key t w g bv pv wr)
  case atStart => exact ⟨t, none, none, rfl, rfl, T.At.below ((Below.refl _ _).alloc (Nat.le_refl _) _) HT.out, rfl, rfl, rfl, Blk.new w _ _, (Below.refl _ _).alloc (Nat.le_refl _) _⟩
  case round =>
    obtain ⟨s, bp, o, rfl, rfl, hs, ho, hf, rfl, hz, hbel⟩ := hrel
    have hz1 := hz.lt
    have z0 : wr.cell? ⟨w.heap.size, 0, none⟩ = some (.int .i64 0) := by rw [hz.cell]; rfl
    have z1 : wr.cell? ⟨w.heap.size, 1, none⟩ = some (.int .i64 0) := by rw [hz.cell]; rfl
    have z2 : wr.cell? ⟨w.heap.size, 2, none⟩ = some (.bool false) := by rw [hz.cell]; rfl
    have z3 : wr.cell? ⟨w.heap.size, 3, none⟩ = some (.string ⟨#[]⟩) := by rw [hz.cell]; rfl
    have y0 := hz.free 0
    have y1 := hz.free 1
    have y2 := hz.free 2
    have y3 := hz.free 3
    have HB := Lib.hid hbel
    have HF := Lib.hid hf
    have HZ := Lib.hid hz
    have HS := Lib.hid hs
    clear hbel hf hz hs
    cases s with
    | nil =>
      cases o with
      | none =>
        obtain rfl := ho
        go_wp2_with fail
        go_region
        all_goals
          go_wp2_with fail
          have hfin : T.from key .nil none = t.from key none := HF.out
          rw [← hfin]
          refine ret_tmp_cell_tmp rfl rfl (loads_blk (T := 46) (cs := valCells zeroVal) val_agg val_size ?_ rfl) rfl ⟨rfl, ?_⟩
          · first | exact (((((HZ.out.set 0 _).set 1 _).set 2 _).set 3 _).alloc _) | exact ((((HZ.out.alloc _).set 0 _).set 1 _).set 2 _).set 3 _
          · exact below_drewN (((((HB.out.setCell (Nat.le_refl _) _).setCell (Nat.le_refl _) _).setCell (Nat.le_refl _) _).setCell (Nat.le_refl _) _).alloc (by simp; omega) _) 1
      | some p =>
        obtain ⟨k, v⟩ := p
        obtain ⟨b, lev, l, r, rfl, hb⟩ := ho
        have c0 : wr.cell? ⟨b, 0, none⟩ = some (.string k) := by rw [hb.cell]; rfl
        have c1 : wr.cell? ⟨b, 1, none⟩ = some (.int .i64 v.pos.e) := by rw [hb.cell]; rfl
        have c2 : wr.cell? ⟨b, 2, none⟩ = some (.int .i64 v.pos.i) := by rw [hb.cell]; rfl
        have c3 : wr.cell? ⟨b, 3, none⟩ = some (.bool v.th) := by rw [hb.cell]; rfl
        have c4 : wr.cell? ⟨b, 4, none⟩ = some (.string v.t) := by rw [hb.cell]; rfl
        clear hb
        go_wp2_with fail
        go_region
        all_goals
          go_wp2_with fail
          have hfin : T.from key .nil (some (k, v)) = t.from key none := HF.out
          rw [← hfin]
          refine ret_tmp_cell_tmp rfl rfl (loads_blk (T := 46) (cs := valCells v) val_agg val_size ?_ rfl) rfl ⟨rfl, ?_⟩
          · exact (((HZ.out.set 0 _).set 1 _).set 2 _).set 3 _
          · exact below_drewN ((((HB.out.setCell (Nat.le_refl _) _).setCell (Nat.le_refl _) _).setCell (Nat.le_refl _) _).setCell (Nat.le_refl _) _) 1
    | node b k v lev l r =>
      obtain ⟨hb, hsl, hsr⟩ := HS.out
      have hb1 := hb.lt
      have c0 : wr.cell? ⟨b, 0, none⟩ = some (.string k) := by rw [hb.cell]; rfl
      have c6 : wr.cell? ⟨b, 6, none⟩ = some (.pointer l.ptr) := by rw [hb.cell]; rfl
      have c7 : wr.cell? ⟨b, 7, none⟩ = some (.pointer r.ptr) := by rw [hb.cell]; rfl
      have HK := Lib.hid hb
      have HL := Lib.hid hsl
      have HR := Lib.hid hsr
      clear hb hsl hsr
      have hp : (T.node b k v lev l r).ptr = some ⟨b, 0, none⟩ := rfl
      by_cases hlt : Op.bytesLess k.toList key.toList = true
      · go_wp2_with fail
        go_roundg r.count
        case measure => simp [T.count]; omega
        case rel =>
          refine ⟨r, bp, o, rfl, rfl, HR.out, ho, ?_, rfl, HZ.out, HB.out⟩
          rw [← HF.out]; simp only [T.from]; rw [if_pos (show lt k key = true from hlt)]
      · have hlt' : Op.bytesLess k.toList key.toList = false := by simpa using hlt
        clear hlt
        go_wp2_with fail
        go_region
        all_goals
          go_wp2_with fail
          go_roundg l.count
          case measure => simp [T.count]; omega
          case rel =>
            refine ⟨l, some ⟨b, 0, none⟩, some (k, v), rfl, rfl, T.At.below (Below.refl _ _).drew HL.out, ⟨b, lev, l.ptr, r.ptr, rfl, HK.out⟩, ?_, rfl, HZ.out, HB.out.drew⟩
            rw [← HF.out]; simp only [T.from]; rw [if_neg (by simpa [lt] using hlt')]

def getL (key : ByteArray) (l : List (ByteArray × Val)) : Option Val := (l.find? (fun p => p.1.toList == key.toList)).map (·.2)

theorem T.from_list (key : ByteArray) : ∀ (t : T), Up t.list → ∀ best, t.from key best = (t.list.find? (fun p => !lt p.1 key)).or best
  | .nil, _, best => by simp [T.from, T.list]
  | .node b k v lev l r, h, best => by
    obtain ⟨h1, h2, h3, h4⟩ := Up.node h
    simp only [T.from, T.list]
    rw [List.find?_append]
    split
    · rename_i hk
      have hn : l.list.find? (fun p => !lt p.1 key) = none := by
        rw [List.find?_eq_none]; intro p hp; simp [lt_trans (h3 p hp) hk]
      rw [hn, T.from_list key r h2]
      simp [List.find?_cons, hk]
    · rename_i hk
      rw [T.from_list key l h1]
      have hk' : lt k key = false := by simpa using hk
      simp only [List.find?_cons, hk']
      cases hf : l.list.find? (fun p => !lt p.1 key) <;> simp
theorem find_same (key : ByteArray) : ∀ l : List (ByteArray × Val), Up l → (match l.find? (fun p => !lt p.1 key) with | none => none | some (k, v) => if (k.toList == key.toList) = true then some v else none) = getL key l
  | [], _ => rfl
  | (k, v) :: l, h => by
    unfold Up at h
    rw [List.pairwise_cons] at h
    unfold getL
    cases hk : lt k key with
    | true =>
      have hne : (k.toList == key.toList) = false := by
        rw [beq_eq_false_iff_ne]; intro e; rw [bytes_inj e, lt_irr] at hk; cases hk
      have := find_same key l h.2
      unfold getL at this
      simp only [List.find?_cons, hk, hne]
      simpa using this
    | false =>
      simp only [List.find?_cons, hk, Bool.not_false]
      by_cases he : (k.toList == key.toList) = true
      · simp [he]
      · have hlt : lt key k = true := by
          cases h2 : lt key k with
          | true => rfl
          | false => exact absurd (by rw [lt_tri hk h2]; simp) he
        simp only [he]
        have hn : l.find? (fun p => p.1.toList == key.toList) = none := by
          rw [List.find?_eq_none]; intro p hp hpe
          have := lt_trans hlt (h.1 p hp)
          rw [bytes_inj (beq_iff_eq.1 hpe), lt_irr] at this; cases this
        simp [hn]
theorem T.get_list (key : ByteArray) (t : T) (h : Up t.list) : (match t.from key none with | none => none | some (k, v) => if (k.toList == key.toList) = true then some v else none) = getL key t.list := by
  rw [T.from_list key t h, Option.or_none]; exact find_same key t.list h

theorem getL_ins_same (key : ByteArray) (x : Val) : ∀ l : List (ByteArray × Val), getL key (ins key x l) = some x
  | [] => by simp [ins, getL]
  | (k, y) :: l => by
    simp only [ins]
    split
    · simp [getL]
    · split
      · rename_i h1 h2
        have hne : (k.toList == key.toList) = false := by
          rw [beq_eq_false_iff_ne]; intro e; rw [bytes_inj e, lt_irr] at h2; cases h2
        have := getL_ins_same key x l
        unfold getL at this ⊢
        simp only [List.find?_cons, hne]; exact this
      · rename_i h1 h2
        have e : key = k := lt_tri (by simpa using h1) (by simpa using h2)
        simp [getL, e]
theorem getL_ins_other {key key' : ByteArray} (hne : key' ≠ key) (x : Val) : ∀ l : List (ByteArray × Val), getL key' (ins key x l) = getL key' l
  | [] => by
    have : (key.toList == key'.toList) = false := by rw [beq_eq_false_iff_ne]; intro e; exact hne (bytes_inj e).symm
    simp [ins, getL, this]
  | (k, y) :: l => by
    have hn : (key.toList == key'.toList) = false := by rw [beq_eq_false_iff_ne]; intro e; exact hne (bytes_inj e).symm
    have ih := getL_ins_other hne x l
    simp only [ins]
    split
    · unfold getL; simp only [List.find?_cons, hn]
    · split
      · unfold getL at ih ⊢
        simp only [List.find?_cons]
        cases k.toList == key'.toList <;> simp [ih]
      · rename_i h1 h2
        have e : key = k := lt_tri (by simpa using h1) (by simpa using h2)
        subst e
        unfold getL; simp only [List.find?_cons, hn]

set_option maxHeartbeats 400000 in
theorem Get_some (m : Nat) (key k : ByteArray) (v : Val) (w : World) (o : Option (ByteArray × Val)) (ho : o = some (k, v)) (h : ∀ W, Below w.heap.size w W → Calls Try.prog 75 #[.pointer (some ⟨m, 0, none⟩), .string key] W (FromRes o W)) (b : Bool) (hk : (k.toList == key.toList) = b) :
    Calls Try.prog 51 #[.pointer (some ⟨m, 0, none⟩), .string key] w fun e w' => e = .returned (.tuple #[.agg (valCells (if b = true then v else zeroVal)), .bool b]) ∧ Below w.heap.size w w' := by
  subst ho
  have H := Lib.hid h
  clear h
  have hk2 : (k.toList != key.toList) = !b := by rw [← hk]; rfl
  go_enter Try.func51, Try.ntmps51
  go_wp2_with fail
  refine (H.out _ ((Below.refl _ _).alloc (Nat.le_refl _) _)).mono ?_
  rintro e w1 ⟨rfl, hb⟩
  unfold valCells
  have hz := (Blk.new w (valCells zeroVal) 46).below hb
  have hz1 := hz.lt
  have z0 : w1.cell? ⟨w.heap.size, 0, none⟩ = some (.int .i64 0) := by rw [hz.cell]; rfl
  have z1 : w1.cell? ⟨w.heap.size, 1, none⟩ = some (.int .i64 0) := by rw [hz.cell]; rfl
  have z2 : w1.cell? ⟨w.heap.size, 2, none⟩ = some (.bool false) := by rw [hz.cell]; rfl
  have z3 : w1.cell? ⟨w.heap.size, 3, none⟩ = some (.string ⟨#[]⟩) := by rw [hz.cell]; rfl
  have y0 := hz.free 0
  have y1 := hz.free 1
  have y2 := hz.free 2
  have y3 := hz.free 3
  have HB := Lib.hid ((((Below.refl _ w).alloc (Nat.le_refl _) _).trans (hb.mono (by simp))))
  have HZ := Lib.hid hz
  clear hb hz
  cases b
  · go_wp2_with fail
    refine ret_cell_tmp rfl rfl (loads_blk (T := 46) (cs := valCells zeroVal) val_agg val_size ?_ rfl) rfl ⟨rfl, ?_⟩
    · exact (((((HZ.out.set 0 _).set 1 _).set 2 _).set 3 _).alloc _).alloc _
    · exact ((((((HB.out.setCell (Nat.le_refl _) _).setCell (Nat.le_refl _) _).setCell (Nat.le_refl _) _).setCell (Nat.le_refl _) _).alloc (by simp; omega) _).alloc (by simp; omega) _)
  · go_wp2_with fail
    refine ret_cell_tmp rfl rfl (loads_blk (T := 46) (cs := valCells v) val_agg val_size ?_ rfl) rfl ⟨rfl, ?_⟩
    · exact ((((HZ.out.set 0 _).set 1 _).set 2 _).set 3 _).alloc _
    · exact (((((HB.out.setCell (Nat.le_refl _) _).setCell (Nat.le_refl _) _).setCell (Nat.le_refl _) _).setCell (Nat.le_refl _) _).alloc (by simp; omega) _)

set_option maxHeartbeats 400000 in
theorem Get_none (m : Nat) (key : ByteArray) (w : World) (o : Option (ByteArray × Val)) (ho : o = none) (h : ∀ W, Below w.heap.size w W → Calls Try.prog 75 #[.pointer (some ⟨m, 0, none⟩), .string key] W (FromRes o W)) :
    Calls Try.prog 51 #[.pointer (some ⟨m, 0, none⟩), .string key] w fun e w' => e = .returned (.tuple #[.agg (valCells zeroVal), .bool false]) ∧ Below w.heap.size w w' := by
  subst ho
  have H := Lib.hid h
  clear h
  go_enter Try.func51, Try.ntmps51
  go_wp2_with fail
  refine (H.out _ ((Below.refl _ _).alloc (Nat.le_refl _) _)).mono ?_
  rintro e w1 ⟨rfl, hb⟩
  unfold valCells
  have hz := (Blk.new w (valCells zeroVal) 46).below hb
  have hz1 := hz.lt
  have z0 : w1.cell? ⟨w.heap.size, 0, none⟩ = some (.int .i64 0) := by rw [hz.cell]; rfl
  have z1 : w1.cell? ⟨w.heap.size, 1, none⟩ = some (.int .i64 0) := by rw [hz.cell]; rfl
  have z2 : w1.cell? ⟨w.heap.size, 2, none⟩ = some (.bool false) := by rw [hz.cell]; rfl
  have z3 : w1.cell? ⟨w.heap.size, 3, none⟩ = some (.string ⟨#[]⟩) := by rw [hz.cell]; rfl
  have y0 := hz.free 0
  have y1 := hz.free 1
  have y2 := hz.free 2
  have y3 := hz.free 3
  have HB := Lib.hid ((((Below.refl _ w).alloc (Nat.le_refl _) _).trans (hb.mono (by simp))))
  have HZ := Lib.hid hz
  clear hb hz
  go_wp2_with fail
  refine ret_cell_tmp rfl rfl (loads_blk (T := 46) (cs := valCells zeroVal) val_agg val_size ?_ rfl) rfl ⟨rfl, ?_⟩
  · exact (((((HZ.out.set 0 _).set 1 _).set 2 _).set 3 _).alloc _).alloc _
  · exact ((((((HB.out.setCell (Nat.le_refl _) _).setCell (Nat.le_refl _) _).setCell (Nat.le_refl _) _).setCell (Nat.le_refl _) _).alloc (by simp; omega) _).alloc (by simp; omega) _)

theorem Get_any (m : Nat) (t : T) (key : ByteArray) (w : World) (h : MapAt w m t) :
    Calls Try.prog 51 #[.pointer (some ⟨m, 0, none⟩), .string key] w fun e w' => e = .returned (.tuple #[.agg (valCells ((getL key t.list).getD zeroVal)), .bool (getL key t.list).isSome]) ∧ Below w.heap.size w w' := by
  have hg := T.get_list key t h.up
  have hc : ∀ W, Below w.heap.size w W → Calls Try.prog 75 #[.pointer (some ⟨m, 0, none⟩), .string key] W (FromRes (t.from key none) W) :=
    fun W hW => From_any m t key W (h.frm (Frm.ofBelow (F := fun _ => False) hW) (fun h => h) (fun _ _ h => h))
  cases ho : t.from key none with
  | none =>
    rw [ho] at hg
    simp only at hg
    rw [← hg]
    exact Get_none m key w _ ho hc
  | some p =>
    obtain ⟨k, v⟩ := p
    rw [ho] at hg
    simp only at hg
    rw [← hg]
    cases hb : k.toList == key.toList with
    | true => simpa [hb] using Get_some m key k v w _ ho hc true hb
    | false => simpa [hb] using Get_some m key k v w _ ho hc false hb

end Go.Proofs.Ytedcdjlpogpgbaa
