/- A store in memory: which blocks it has, and what they hold; what a call may turn. No program in sight, but for the numbers of its types. -/
import Derived.Test.YtlakojncjldpbaaMem
namespace Go.Proofs.Ytlakojncjldpbaa
namespace Hop
open Go.RowKit
set_option linter.unusedVariables false
set_option linter.unusedSimpArgs false
structure Nd where
  key : Int
  val : Int
  flag : Int
  tag : Int
  prev : Int
  next : Int
def Nd.z : Nd := ⟨0, 0, 0, 0, 0, 0⟩
structure Sl where
  nd : Nd
  taken : Bool
def Sl.z : Sl := ⟨Nd.z, false⟩
structure Li where
  front : Int
  back : Int
  many : Int
def Li.z : Li := ⟨0, 0, 0⟩
abbrev sg (S : List Sl) (i : Int) : Sl := gt S i Sl.z
def encN (n : Nd) : List Value := [.int .u64 n.key, .int .u64 n.val, .int .i64 n.flag, .int .i64 n.tag, .int .i32 n.prev, .int .i32 n.next]
def encS (s : Sl) : List Value := [.int .u64 s.nd.key, .int .u64 s.nd.val, .int .i64 s.nd.flag, .int .i64 s.nd.tag, .int .i32 s.nd.prev, .int .i32 s.nd.next, .bool s.taken]
def encL (x : Li) : List Value := [.int .i32 x.front, .int .i32 x.back, .int .i64 x.many]
def encT (x : Ts) : List Value := [.int .u64 x.key, .int .i32 x.num, .bool x.full]
theorem encS_len (s : Sl) : (encS s).length = 7 := rfl
theorem encL_len (s : Li) : (encL s).length = 3 := rfl
theorem encT_len (s : Ts) : (encT s).length = 3 := rfl
/-- Is a slot taken? -/
def isT (S : List Sl) (i : Int) : Bool := decide (0 < i) && (decide (i < S.length) && (sg S i).taken)

/-- What a call may turn: blocks of a kind; all others stay. -/
structure Fr (own : Nat → Prop) (w w' : World) : Prop where
  os : w'.os = w.os
  tape : w'.tape = w.tape
  output : w'.output = w.output
  size : w.heap.size ≤ w'.heap.size
  block : ∀ k, k < w.heap.size → ¬ own k → w'.heap[k]? = w.heap[k]?
section
variable {own own' : Nat → Prop} {a b c w w' : World}
theorem Fr.refl (own : Nat → Prop) (w : World) : Fr own w w := ⟨rfl, rfl, rfl, Nat.le_refl _, fun _ _ _ => rfl⟩
theorem Fr.trans (h : Fr own a b) (k : Fr own' b c) (hs : ∀ i, own' i → own i ∨ a.heap.size ≤ i) : Fr own a c :=
  ⟨k.os.trans h.os, k.tape.trans h.tape, k.output.trans h.output, Nat.le_trans h.size k.size, fun i hi hn =>
    (k.block i (Nat.lt_of_lt_of_le hi h.size) (fun ho => (hs i ho).elim hn (fun hge => by omega))).trans (h.block i hi hn)⟩
theorem Fr.mono (h : Fr own w w') (hs : ∀ i, own i → own' i) : Fr own' w w' := ⟨h.os, h.tape, h.output, h.size, fun i hi hn => h.block i hi (fun ho => hn (hs i ho))⟩
theorem Fr.of_below (h : Below w.heap.size w w') : Fr own w w' := ⟨h.os, h.tape, h.output, h.size, fun i hi _ => h.block i hi⟩
theorem Fr.below (h : Fr (fun _ => False) w w') : Below w.heap.size w w' := ⟨h.os, h.tape, h.output, h.size, fun i hi => h.block i hi (fun f => f)⟩
theorem Fr.alloc (h : Fr own a w) (o : Obj) : Fr own a (w.alloc o) := h.trans (own' := fun _ => False) (Fr.of_below ((Below.refl _ _).alloc (Nat.le_refl _) o)) (fun _ f => f.elim)
theorem Fr.drew (h : Fr own a w) : Fr own a w.drew := ⟨h.os, h.tape, h.output, h.size, h.block⟩
theorem Fr.setCell (h : Fr own a w) {p : Addr} (hp : own p.block ∨ a.heap.size ≤ p.block) (u : Value) : Fr own a (w.setCell p u) :=
  h.trans (own' := fun i => i = p.block) ⟨rfl, rfl, rfl, by simp [World.setCell], fun i hi hn => Below.heap_setCell _ _ _ _ hn⟩ (fun i e => e ▸ hp)
theorem Fr.setEq (h : Fr own a w) {b o : Nat} (hp : own b) (u : Value) : Fr own a (w.setCell ⟨b, o, none⟩ u) := h.setCell (.inl hp) u
theorem Fr.setNew (h : Fr own a w) {b o : Nat} (hp : a.heap.size ≤ b) (u : Value) : Fr own a (w.setCell ⟨b, o, none⟩ u) := h.setCell (.inr hp) u
theorem Fr.and_below (h : Fr own a b) (k : Below b.heap.size b c) : Fr own a c := h.trans (own' := fun _ => False) (Fr.of_below k) (fun _ f => f.elim)
theorem Fr.blk {x : Nat} {cs : List Value} {T : Nat} (h : Fr own w w') (hx : ¬ own x) (hb : Blk w x cs T) : Blk w' x cs T := hb.of_heap (h.block x hb.lt hx)
theorem Blk.keep {x : Nat} {cs : List Value} {T : Nat} (hb : Blk w x cs T) (h : Below w.heap.size w w') : Blk w' x cs T := hb.of_heap (h.block x hb.lt)
end

/-- The store's lists, as they lie. -/
structure St where
  slots : List Sl
  freed : List Int
  next : Int
  live : Int
  lists : List Li
  tab : List Ts
  many : Int
  queues : Int
/-- Where the store lies. -/
structure Loc where
  ps : Nat
  pl : Nat
  pa : Nat
  pt : Nat
  bl : Nat
  ba : Nat
  bt : Nat
  fv : Value
def Loc.has (L : Loc) (k : Nat) : Prop := k = L.ps ∨ k = L.pl ∨ k = L.pa ∨ k = L.pt ∨ k = L.bl ∨ k = L.ba ∨ k = L.bt ∨ L.fv.ownBlock = some k
abbrev P0 (b : Nat) : Value := .pointer (some ⟨b, 0, none⟩)
abbrev S0 (b n : Nat) : Value := .slice (some ⟨b, 0, none⟩) n n
/-- A slice that is nil, or begins at a block's head: n elements of k cells each. -/
def Row (w : World) (E k : Nat) (v : Value) (n : Nat) (xs : List Value) : Prop :=
  xs.length = n * k ∧ ((v = .slice none 0 0 ∧ n = 0) ∨ ∃ g cap cs, v = .slice (some ⟨g, 0, none⟩) n cap ∧ Blk w g cs E ∧ n ≤ cap ∧ cap ≤ maxLen ∧ cap * k ≤ cs.length ∧ cs.take (n * k) = xs)
theorem Row.nil (w : World) (E k : Nat) : Row w E k (.slice none 0 0) 0 [] := ⟨by simp, .inl ⟨rfl, rfl⟩⟩
theorem Row.frame {own : Nat → Prop} {w w' : World} {E k : Nat} {v : Value} {n : Nat} {xs : List Value} (h : Row w E k v n xs) (hf : Fr own w w') (ho : ∀ b, v.ownBlock = some b → ¬ own b) : Row w' E k v n xs := by
  refine ⟨h.1, ?_⟩
  rcases h.2 with h1 | ⟨g, cap, cs, h1, h2, h3⟩
  · exact .inl h1
  · exact .inr ⟨g, cap, cs, h1, hf.blk (ho g (by rw [h1]; rfl)) h2, h3⟩
theorem Row.keep {w w' : World} {E k : Nat} {v : Value} {n : Nat} {xs : List Value} (h : Row w E k v n xs) (hb : Below w.heap.size w w') : Row w' E k v n xs :=
  h.frame (own := fun _ => False) (Fr.of_below hb) (fun _ _ f => f)
theorem Row.lt {w : World} {E k : Nat} {v : Value} {n : Nat} {xs : List Value} (h : Row w E k v n xs) {b : Nat} (hb : v.ownBlock = some b) : b < w.heap.size ∧ ∃ cs, Blk w b cs E := by
  rcases h.2 with ⟨h1, _⟩ | ⟨g, cap, cs, h1, h2, h3⟩
  · rw [h1] at hb; cases hb
  · rw [h1] at hb
    have e : g = b := by simpa [Value.ownBlock] using hb
    subst e
    exact ⟨h2.lt, cs, h2⟩
/-- The freed slots' numbers. -/
def Frv (w : World) (v : Value) (l : List Int) : Prop := Row w 21 1 v l.length (l.map (Value.int .i32))
structure SRep (w : World) (L : Loc) (s : St) : Prop where
  hs : Blk w L.ps [P0 L.pl, P0 L.pa, P0 L.pt, .int .i64 s.queues] 160
  hl : Blk w L.pl [P0 L.pa, S0 L.bl s.lists.length] 192
  ha : Blk w L.pa [S0 L.ba s.slots.length, L.fv, .int .i64 s.next, .int .i64 s.live] 189
  ht : Blk w L.pt [S0 L.bt s.tab.length, .int .i64 s.many] 195
  bl : Blk w L.bl (flat encL s.lists) 208
  ba : Blk w L.ba (flat encS s.slots) 201
  bt : Blk w L.bt (flat encT s.tab) 213
  fr : Frv w L.fv s.freed
section
variable {w w' : World} {L : Loc} {s : St}
theorem Frv.keep {v : Value} {l : List Int} (h : Frv w v l) (hb : Below w.heap.size w w') : Frv w' v l := Row.keep h hb
theorem Frv.frame {own : Nat → Prop} {v : Value} {l : List Int} (h : Frv w v l) (hf : Fr own w w') (ho : ∀ k, v.ownBlock = some k → ¬ own k) : Frv w' v l := Row.frame h hf ho
theorem SRep.keep (h : SRep w L s) (hb : Below w.heap.size w w') : SRep w' L s :=
  ⟨h.hs.keep hb, h.hl.keep hb, h.ha.keep hb, h.ht.keep hb, h.bl.keep hb, h.ba.keep hb, h.bt.keep hb, h.fr.keep hb⟩
theorem SRep.frame {own : Nat → Prop} (h : SRep w L s) (hf : Fr own w w') (ho : ∀ k, L.has k → ¬ own k) : SRep w' L s :=
  ⟨hf.blk (ho _ (by simp [Loc.has])) h.hs, hf.blk (ho _ (by simp [Loc.has])) h.hl, hf.blk (ho _ (by simp [Loc.has])) h.ha, hf.blk (ho _ (by simp [Loc.has])) h.ht,
    hf.blk (ho _ (by simp [Loc.has])) h.bl, hf.blk (ho _ (by simp [Loc.has])) h.ba, hf.blk (ho _ (by simp [Loc.has])) h.bt, h.fr.frame hf (fun k hk => ho k (by simp [Loc.has, hk]))⟩
theorem Frv.lt {v : Value} {l : List Int} (h : Frv w v l) {k : Nat} (hk : v.ownBlock = some k) : k < w.heap.size ∧ ∃ cs, Blk w k cs 21 := Row.lt h hk
theorem SRep.lt (h : SRep w L s) {k : Nat} (hk : L.has k) : k < w.heap.size := by
  rcases hk with rfl | rfl | rfl | rfl | rfl | rfl | rfl | hk
  · exact h.hs.lt
  · exact h.hl.lt
  · exact h.ha.lt
  · exact h.ht.lt
  · exact h.bl.lt
  · exact h.ba.lt
  · exact h.bt.lt
  · exact (h.fr.lt hk).1
end
end Hop
end Go.Proofs.Ytlakojncjldpbaa
