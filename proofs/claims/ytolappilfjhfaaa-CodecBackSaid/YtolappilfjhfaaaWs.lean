/- 'append(dst, src...)' from whatever slice of one-cell elements reads as a list. Conditions: numbers fit. A world in which all blocks below m but those of S are as they were. No condition; no program. -/
import Derived.Maps.AppendAt
import Derived.Laws.AppendOwnNone
import Derived.Test.YtolappilfjhfaaaWa
namespace Go.Proofs.Ytolappilfjhfaaa
open Go.RowKit

theorem grown_refl (w : World) (row : Option Nat) : w.grownBy w row := ⟨rfl, rfl, rfl, Nat.le_refl _, fun _ _ _ => rfl⟩

theorem wpList_append_sl {P : Program} {w : World} {ops : Array Oper} {rest : List Oper} {o : Oper} {a : Act} {Q : Exit → Act → World → Prop} {α : Type} {f : α → Value} {ys : List α} (hgd : o.guard = none) (s x : Operand) (t : TypeId)
    (ho : o.op = .call { callee := .builtin .append, args := #[s, x], argTypes := #[t, t] })
    (base : Nat) (e : TypeId) (i : TypeInfo) (z : Value) (bytes : Nat) (ht : P.underlying t = some (.slice e)) (hi : P.info? e = some i) (hz : i.zero = some z)
    (hsize : i.size = 1) (hby : i.bytes = bytes) (hzs : z.cells.size = 1)
    (v : Value) (n : Nat) (xs : List Value) (hs : a.eval s = v) (hown : w.ownsRow base e 1 v n xs)
    (u : Value) (hx : a.eval x = u) (hsrc : SlOf w u 1 (fun y => [f y]) ys) (h1 : ∀ y, (f y).oneCell' = true)
    (h63 : n + ys.length ≤ maxLen) (hbytes : (n + ys.length) * bytes ≤ 140737488355328) (hbase : base ≤ w.heap.size)
    (h : ∀ v' w', w'.ownsRow base e 1 v' (n + ys.length) (xs ++ ys.map f) → w.grownBy w' v.ownBlock → (v'.ownBlock = v.ownBlock ∨ v'.ownBlock = some w.heap.size) → wpList P ops Q rest (a.put o.dst v') w') : wpList P ops Q (o :: rest) a w := by
  rcases sl_one hsrc with ⟨rfl, ad, cap, rfl, hn⟩ | ⟨hp, b, off, cap, rfl, hlc, hb, hcell⟩
  · cases ad with
    | none =>
      obtain rfl := hn rfl
      exact wpList_append_own_none hgd s x t ho base e i 1 ht hi v n xs hs hown hx (h v w (by simpa using hown) (grown_refl _ _) (Or.inl rfl))
    | some ad =>
      exact wpList_append_own_at _ hgd s x t ho base e i z 1 bytes ht hi hz hsize hby hzs (by decide) v n xs hs hown ad 0 cap [] hx rfl (fun j u hj => by simp at hj) (fun u hu => by simp at hu) h63 hbytes hbase
        (fun v' w' g1 g2 _ g4 => h v' w' (by simpa using g1) g2 g4)
  · exact wpList_append_own_at _ hgd s x t ho base e i z 1 bytes ht hi hz hsize hby hzs (by decide) v n xs hs hown ⟨b, off, none⟩ ys.length cap (ys.map f) hx (by simp)
      (fun j u hj => by
        rw [add_none]
        rw [List.getElem?_map] at hj
        cases hjb : ys[j]? with
        | none => rw [hjb] at hj; cases hj
        | some y =>
          rw [hjb] at hj
          obtain ⟨hlt, rfl⟩ := List.getElem?_eq_some_iff.1 hjb
          rw [hcell j hlt]
          exact hj)
      (fun u hu => by obtain ⟨y, _, rfl⟩ := List.mem_map.1 hu; exact h1 y) h63 hbytes hbase
      (fun v' w' g1 g2 _ g4 => h v' w' g1 g2 g4)
end Go.Proofs.Ytolappilfjhfaaa
namespace Go.Proofs.Ytolappilfjhfaaa
open Go.RowKit

/-- Below m, but for the blocks of S, w' is as w was. -/
structure Save (S : Nat → Prop) (m : Nat) (w w' : World) : Prop where
  os : w'.os = w.os
  tape : w'.tape = w.tape
  output : w'.output = w.output
  size : w.heap.size ≤ w'.heap.size
  block : ∀ k, k < m → ¬ S k → w'.heap[k]? = w.heap[k]?

section
variable {S S' : Nat → Prop} {m m' : Nat} {w a b c : World}
theorem Save.refl (S : Nat → Prop) (m : Nat) (w : World) : Save S m w w := ⟨rfl, rfl, rfl, Nat.le_refl _, fun _ _ _ => rfl⟩
theorem Save.trans (h : Save S m a b) (k : Save S m b c) : Save S m a c := ⟨k.os.trans h.os, k.tape.trans h.tape, k.output.trans h.output, Nat.le_trans h.size k.size, fun i hi hn => (k.block i hi hn).trans (h.block i hi hn)⟩
theorem Save.mono (h : Save S m a b) (hm : m' ≤ m) (hS : ∀ k, k < m' → S k → S' k) : Save S' m' a b := ⟨h.os, h.tape, h.output, h.size, fun k hk hn => h.block k (Nat.lt_of_lt_of_le hk hm) fun hs => hn (hS k hk hs)⟩
theorem Save.of (h : Below m a b) : Save S m a b := ⟨h.os, h.tape, h.output, h.size, fun k hk _ => h.block k hk⟩
theorem Save.below (h : Save S m a b) (hn : ∀ k, k < m' → ¬ S k) (hm : m' ≤ m) : Below m' a b := ⟨h.os, h.tape, h.output, h.size, fun k hk => h.block k (Nat.lt_of_lt_of_le hk hm) (hn k hk)⟩
theorem Save.set (h : Save S m a b) {p : Addr} (hp : S p.block ∨ m ≤ p.block) (u : Value) : Save S m a (b.setCell p u) :=
  h.trans ⟨rfl, rfl, rfl, by simp [World.setCell], fun k hk hn => Below.heap_setCell _ _ _ _ (by
    intro e
    subst e
    rcases hp with hp | hp
    · exact hn hp
    · omega)⟩
theorem Save.drew (h : Save S m a b) : Save S m a b.drew := ⟨h.os, h.tape, h.output, h.size, h.block⟩
theorem Save.drewN (h : Save S m a b) (n : Nat) : Save S m a (b.drewN n) := h.trans ⟨rfl, rfl, rfl, Nat.le_refl _, fun _ _ _ => rfl⟩
theorem Save.alloc (h : Save S m a b) (hm : m ≤ b.heap.size) (o : Obj) : Save S m a (b.alloc o) :=
  h.trans ⟨rfl, rfl, rfl, by simp, fun k hk _ => Below.heap_alloc _ _ _ (by omega)⟩
theorem Save.then (h : Save S m a b) (k : Below b.heap.size b c) (hm : m ≤ b.heap.size) : Save S m a c := h.trans (Save.of (k.mono hm))
theorem Save.cell (h : Save S m a b) {p : Addr} (hp : p.block < m) (hn : ¬ S p.block) : b.cell? p = a.cell? p := World.cell?_of_block (w := a) (h.block p.block hp hn)
theorem Save.frozen (h : Save S m a b) {p : Addr} (hp : p.block < m) (hn : ¬ S p.block) : b.frozen? p = a.frozen? p := World.frozen?_of_block (w := a) (h.block p.block hp hn)
/-- A row of the call's own, that lies behind the blocks that turn. -/
theorem Save.owns {base e size n : Nat} {v : Value} {xs : List Value} (h : Save S m a b) (ho : a.ownsRow base e size v n xs) (hm : a.heap.size ≤ m) (hS : ∀ k, base ≤ k → ¬ S k) : b.ownsRow base e size v n xs := by
  obtain ⟨h1, h2⟩ := ho
  refine ⟨h1, ?_⟩
  rcases h2 with h2 | ⟨g, cap, cur, hv, hg, hh, r⟩
  · exact Or.inl h2
  · have hlt : g < a.heap.size := by
      rcases Nat.lt_or_ge g a.heap.size with h | h
      · exact h
      · rw [Array.getElem?_eq_none h] at hh; cases hh
    exact Or.inr ⟨g, cap, cur, hv, hg, by rw [h.block g (by omega) (hS g hg)]; exact hh, r⟩
end
end Go.Proofs.Ytolappilfjhfaaa
