/- Layer 5's tree: the putting in of a key. -/
import Derived.Test.YtedcdjlpogpgbaaTree
set_option linter.unusedVariables false
set_option linter.unusedSimpArgs false
namespace Go.Proofs.Ytedcdjlpogpgbaa
open Go.RowKit

def lt (a b : ByteArray) : Bool := Op.bytesLess a.toList b.toList

def T.set (nb : Nat) (key : ByteArray) (x : Val) : T → T
  | .nil => .node nb key x 1 .nil .nil
  | .node b k v lev l r =>
    if lt key k = true then (T.skew (.node b k v lev (l.set nb key x) r)).split
    else if lt k key = true then (T.skew (.node b k v lev l (r.set nb key x))).split
    else .node b k x lev l r

def valCells (v : Val) : Array Value := #[.int .i64 v.pos.e, .int .i64 v.pos.i, .bool v.th, .string v.t]

def PtrRes (R : Option Addr → World → Prop) (e : Ending) (w' : World) : Prop := ∃ q, e = .returned (.pointer q) ∧ R q w'

set_option maxHeartbeats 400000 in
theorem set_nil (m : Nat) (key : ByteArray) (x : Val) (n : Int) (w : World)
    (hm : m < w.heap.size) (hk : w.cell? ⟨m, 1, none⟩ = some (.int .i64 n)) (hf : w.frozen? ⟨m, 1, none⟩ = false) :
    Calls Try.prog 83 #[.pointer (some ⟨m, 0, none⟩), .pointer none, .string key, .agg (valCells x)] w fun e w' => e = .returned (.pointer (some ⟨w.heap.size + 1, 0, none⟩)) ∧ w' = ((w.setCell ⟨m, 1, none⟩ (.int .i64 (wrap64 (n + 1)))).alloc (.cells (valCells x) 46)).alloc (.cells (placeCells key x 1 none none) 157) := by
  unfold valCells placeCells
  go_enter Try.func83, Try.ntmps83
  go_wp2_with fail
  go_ret
  exact ⟨rfl, rfl⟩

set_option maxHeartbeats 400000 in
theorem set_same (m b : Nat) (key k : ByteArray) (x y : Val) (lev : Int) (l r : Option Addr) (w : World)
    (hb : Blk w b (placeCells k y lev l r) 157) (h1 : Op.bytesLess key.toList k.toList = false) (h2 : Op.bytesLess k.toList key.toList = false) (h3 : (key.toList == k.toList) = true) :
    Calls Try.prog 83 #[.pointer (some ⟨m, 0, none⟩), .pointer (some ⟨b, 0, none⟩), .string key, .agg (valCells x)] w fun e w' => e = .returned (.pointer (some ⟨b, 0, none⟩)) ∧ Blk w' b (placeCells k x lev l r) 157 ∧ Frm (· = b) w w' := by
  have hb1 := hb.lt
  have c0 : w.cell? ⟨b, 0, none⟩ = some (.string k) := by rw [hb.cell]; rfl
  have c1 : w.cell? ⟨b, 1, none⟩ = some (.int .i64 y.pos.e) := by rw [hb.cell]; rfl
  have c2 : w.cell? ⟨b, 2, none⟩ = some (.int .i64 y.pos.i) := by rw [hb.cell]; rfl
  have c3 : w.cell? ⟨b, 3, none⟩ = some (.bool y.th) := by rw [hb.cell]; rfl
  have c4 : w.cell? ⟨b, 4, none⟩ = some (.string y.t) := by rw [hb.cell]; rfl
  have f1 := hb.free 1
  have f2 := hb.free 2
  have f3 := hb.free 3
  have f4 := hb.free 4
  have HB := Lib.hid hb
  clear hb
  unfold valCells
  go_enter Try.func83, Try.ntmps83
  go_wp2_with fail
  go_ret
  refine ⟨rfl, ?_, ?_⟩
  · exact (((((HB.out).set 1 _).set 2 _).set 3 _).set 4 _).alloc _
  · exact (((((Frm.refl (· = b) w).setCell (p := ⟨b, 1, none⟩) (.inl rfl) _).setCell (p := ⟨b, 2, none⟩) (.inl rfl) _).setCell (p := ⟨b, 3, none⟩) (.inl rfl) _).setCell (p := ⟨b, 4, none⟩) (.inl rfl) _).alloc _

set_option maxHeartbeats 400000 in
theorem set_less (m b : Nat) (key k : ByteArray) (x : Val) (l : Option Addr) (w : World) (R R' : Option Addr → World → Prop)
    (hb : b < w.heap.size) (hk : w.cell? ⟨b, 0, none⟩ = some (.string k)) (hl : w.cell? ⟨b, 6, none⟩ = some (.pointer l)) (hlt : Op.bytesLess key.toList k.toList = true)
    (hc : ∀ W : World, Below w.heap.size w W → Calls Try.prog 83 #[.pointer (some ⟨m, 0, none⟩), .pointer l, .string key, .agg (valCells x)] W (PtrRes R))
    (hw : ∀ q W, R q W → (W.cell? ⟨b, 6, none⟩ = some (.pointer l) ∧ W.frozen? ⟨b, 6, none⟩ = false))
    (hs : ∀ q W W', R q W → W'.Alike (W.setCell ⟨b, 6, none⟩ (.pointer q)) → W'.tape = W.tape → Calls Try.prog 95 #[.pointer (some ⟨b, 0, none⟩)] W' (PtrRes fun q2 w2 => Calls Try.prog 94 #[.pointer q2] w2 (PtrRes R'))) :
    Calls Try.prog 83 #[.pointer (some ⟨m, 0, none⟩), .pointer (some ⟨b, 0, none⟩), .string key, .agg (valCells x)] w (PtrRes R') := by
  unfold valCells at *
  have HC := Lib.hid hc
  have HW := Lib.hid hw
  have HS := Lib.hid hs
  clear hc hw hs
  go_enter Try.func83, Try.ntmps83
  go_wp2_with fail
  go_region_with (go_at_call 83; refine (HC.out _ (((Below.refl _ _).alloc (Nat.le_refl _) _).drew)).mono ?_; rintro e w1 ⟨q, rfl, hr⟩; obtain ⟨hw1, hw2⟩ := HW.out q w1 hr)
  all_goals
    go_wp2_with fail
    refine (HS.out q w1 _ hr ⟨rfl, rfl, rfl⟩ rfl).mono ?_
    rintro e w2 ⟨q2, rfl, hs2⟩
    have HS2 := Lib.hid hs2
    clear hs2
    go_wp2_with fail
    refine HS2.out.mono ?_
    rintro e w3 ⟨q3, rfl, hs3⟩
    go_wp2_with fail
    go_ret
    exact ⟨q3, rfl, hs3⟩

set_option maxHeartbeats 400000 in
theorem set_great (m b : Nat) (key k : ByteArray) (x : Val) (l : Option Addr) (w : World) (R R' : Option Addr → World → Prop)
    (hb : b < w.heap.size) (hk : w.cell? ⟨b, 0, none⟩ = some (.string k)) (hl : w.cell? ⟨b, 7, none⟩ = some (.pointer l)) (hlt : Op.bytesLess key.toList k.toList = false) (hlt2 : Op.bytesLess k.toList key.toList = true) (hne : (key.toList == k.toList) = false)
    (hc : ∀ W : World, Below w.heap.size w W → Calls Try.prog 83 #[.pointer (some ⟨m, 0, none⟩), .pointer l, .string key, .agg (valCells x)] W (PtrRes R))
    (hw : ∀ q W, R q W → (W.cell? ⟨b, 7, none⟩ = some (.pointer l) ∧ W.frozen? ⟨b, 7, none⟩ = false))
    (hs : ∀ q W W', R q W → W'.Alike (W.setCell ⟨b, 7, none⟩ (.pointer q)) → W'.tape = W.tape → Calls Try.prog 95 #[.pointer (some ⟨b, 0, none⟩)] W' (PtrRes fun q2 w2 => Calls Try.prog 94 #[.pointer q2] w2 (PtrRes R'))) :
    Calls Try.prog 83 #[.pointer (some ⟨m, 0, none⟩), .pointer (some ⟨b, 0, none⟩), .string key, .agg (valCells x)] w (PtrRes R') := by
  unfold valCells at *
  have HC := Lib.hid hc
  have HW := Lib.hid hw
  have HS := Lib.hid hs
  clear hc hw hs
  go_enter Try.func83, Try.ntmps83
  go_wp2_with fail
  go_region_with (go_at_call 83; refine (HC.out _ (((Below.refl _ _).alloc (Nat.le_refl _) _).drew)).mono ?_; rintro e w1 ⟨q, rfl, hr⟩; obtain ⟨hw1, hw2⟩ := HW.out q w1 hr)
  all_goals
    go_wp2_with fail
    refine (HS.out q w1 _ hr ⟨rfl, rfl, rfl⟩ rfl).mono ?_
    rintro e w2 ⟨q2, rfl, hs2⟩
    have HS2 := Lib.hid hs2
    clear hs2
    go_wp2_with fail
    refine HS2.out.mono ?_
    rintro e w3 ⟨q3, rfl, hs3⟩
    go_wp2_with fail
    go_ret
    exact ⟨q3, rfl, hs3⟩


/-- What bytesLess is: a strict order without ties but of equals. -/
theorem bless_irr : ∀ a : List UInt8, Op.bytesLess a a = false
  | [] => rfl
  | x :: a => by simp [Op.bytesLess, bless_irr a]
theorem bless_tri : ∀ a b : List UInt8, Op.bytesLess a b = false → Op.bytesLess b a = false → a = b
  | [], [], _, _ => rfl
  | [], y :: b, h, _ => by simp [Op.bytesLess] at h
  | x :: a, [], _, h => by simp [Op.bytesLess] at h
  | x :: a, y :: b, h, k => by
    simp only [Op.bytesLess, Bool.or_eq_false_iff, Bool.and_eq_false_iff, decide_eq_false_iff_not, beq_eq_false_iff_ne, UInt8.not_lt, UInt8.le_iff_toNat_le] at h k
    have e : x = y := UInt8.toNat.inj (by omega)
    subst e
    rw [bless_tri a b (h.2.resolve_left (fun h => h rfl)) (k.2.resolve_left (fun h => h rfl))]
theorem bless_trans : ∀ a b c : List UInt8, Op.bytesLess a b = true → Op.bytesLess b c = true → Op.bytesLess a c = true
  | _, [], [], _, h => by simp [Op.bytesLess] at h
  | _, _ :: _, [], _, h => by simp [Op.bytesLess] at h
  | [], _, _ :: _, _, _ => by simp [Op.bytesLess]
  | _ :: _, [], _ :: _, h, _ => by simp [Op.bytesLess] at h
  | x :: a, y :: b, z :: c, h, k => by
    simp only [Op.bytesLess, Bool.or_eq_true, Bool.and_eq_true, decide_eq_true_eq, beq_iff_eq, UInt8.lt_iff_toNat_lt] at h k ⊢
    rcases h with h | ⟨rfl, h⟩
    · rcases k with k | ⟨rfl, k⟩
      · exact .inl (by omega)
      · exact .inl h
    · rcases k with k | ⟨rfl, k⟩
      · exact .inl k
      · exact .inr ⟨rfl, bless_trans a b c h k⟩
theorem bytes_inj {a b : ByteArray} (h : a.toList = b.toList) : a = b := by
  rw [ByteArray.toList_eq, ByteArray.toList_eq] at h
  cases a; cases b; simpa using h
theorem lt_irr (a : ByteArray) : lt a a = false := bless_irr _
theorem lt_tri {a b : ByteArray} (h : lt a b = false) (k : lt b a = false) : a = b := bytes_inj (bless_tri _ _ h k)
theorem lt_trans {a b c : ByteArray} (h : lt a b = true) (k : lt b c = true) : lt a c = true := bless_trans _ _ _ h k
theorem lt_asymm {a b : ByteArray} (h : lt a b = true) : lt b a = false := by
  cases k : lt b a with
  | false => rfl
  | true => have := lt_trans h k; rw [lt_irr] at this; cases this

end Go.Proofs.Ytedcdjlpogpgbaa
