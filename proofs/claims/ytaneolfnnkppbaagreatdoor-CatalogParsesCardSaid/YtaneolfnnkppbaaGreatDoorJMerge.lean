/- The plain theory of the merges of a stable sort: ranges that change places, runs, tags. -/
import Derived.Sort.Lot0
import Derived.Sort.LotA
import Derived.Sort.WalkA
import Derived.Shelf.SlSortCmp.KitK
import Derived.Test.YtaneolfnnkppbaaGreatDoorJSort
import Derived.Test.YtaneolfnnkppbaaGreatDoorJProY
import Derived.Test.YtaneolfnnkppbaaGreatDoorJLaw
set_option linter.all false
namespace Go.Proofs.YtaneolfnnkppbaaGreatDoor
open Go Go.Sort
section
variable {α : Type} [Inhabited α]

def SwR (d d' : Array α) (a b n : Nat) : Prop :=
 d'.size = d.size ∧ ∀ i, d'[i]! = if a ≤ i ∧ i < a + n then d[i - a + b]! else if b ≤ i ∧ i < b + n then d[i - b + a]! else d[i]!
def RotR (d d' : Array α) (a m b : Nat) : Prop :=
 d'.size = d.size ∧ ∀ i, d'[i]! = if i < a ∨ b ≤ i then d[i]! else if i < a + (b - m) then d[i - a + m]! else d[i - (b - m)]!
theorem SwR.zero (d : Array α) (a b : Nat) : SwR d d a b 0 := ⟨rfl, fun i => by rw [if_neg (by omega), if_neg (by omega)]⟩
theorem SwR.step {d dk : Array α} {a b k : Nat} (h : SwR d dk a b k) (hab : a + k < b) (hb : b + k < d.size) : SwR d (swp dk (a + k) (b + k)) a b (k + 1) := by
 obtain ⟨h1, h2⟩ := h
 refine ⟨by rw [size_swp, h1], fun i => ?_⟩
 by_cases e1 : i = a + k
 ·subst e1
  rw [swp_left _ _ _ (by omega) (by omega), h2, if_neg (by omega), if_neg (by omega), if_pos (by omega)]
  congr 1; omega
 ·by_cases e2 : i = b + k
  ·subst e2
   rw [swp_right _ _ _ (by omega), h2, if_neg (by omega), if_neg (by omega), if_neg (by omega), if_pos (by omega)]
   congr 1; omega
  ·rw [swp_other _ _ _ _ e1 e2, h2]
   by_cases c1 : a ≤ i ∧ i < a + k
   ·rw [if_pos c1, if_pos (by omega)]
   ·have n1 : ¬ (a ≤ i ∧ i < a + (k + 1)) := by omega
    rw [if_neg c1, if_neg n1]
    by_cases c2 : b ≤ i ∧ i < b + k
    ·rw [if_pos c2, if_pos (by omega)]
    ·rw [if_neg c2, if_neg (by omega)]
theorem RotR.left {dk dk' d' : Array α} {m i j : Nat} (hs : SwR dk dk' (m - i) m j) (hi : i ≤ m) (hij : j < i) (h : RotR dk' d' (m - (i - j)) m (m + j)) : RotR dk d' (m - i) m (m + j) := by
 obtain ⟨s1, s2⟩ := hs
 obtain ⟨r1, r2⟩ := h
 refine ⟨by rw [r1, s1], fun p => ?_⟩
 rw [r2]
 by_cases c1 : p < m - i ∨ m + j ≤ p
 ·rw [if_pos (by omega), if_pos c1, s2, if_neg (by omega), if_neg (by omega)]
 ·rw [if_neg c1]
  by_cases c2 : p < m - i + (m + j - m)
  ·rw [if_pos c2, if_pos (by omega), s2, if_pos (by omega)]
  ·rw [if_neg c2, if_neg (by omega)]
   by_cases c3 : p < m - (i - j) + (m + j - m)
   ·rw [if_pos c3, s2, if_neg (by omega), if_pos (by omega)]
    congr 1; omega
   ·rw [if_neg c3, s2, if_neg (by omega), if_neg (by omega)]
theorem RotR.right {dk dk' d' : Array α} {m i j : Nat} (hs : SwR dk dk' (m - i) (m + j - i) i) (hi : i ≤ m) (hij : i < j) (h : RotR dk' d' (m - i) m (m + (j - i))) : RotR dk d' (m - i) m (m + j) := by
 obtain ⟨s1, s2⟩ := hs
 obtain ⟨r1, r2⟩ := h
 refine ⟨by rw [r1, s1], fun p => ?_⟩
 rw [r2]
 by_cases c1 : p < m - i ∨ m + j ≤ p
 ·rw [if_pos (by omega), if_pos c1, s2, if_neg (by omega), if_neg (by omega)]
 ·rw [if_neg c1]
  by_cases c4 : m + (j - i) ≤ p
  ·rw [if_pos (by omega), s2, if_neg (by omega), if_pos (by omega), if_neg (by omega)]
   congr 1; omega
  ·rw [if_neg (by omega)]
   by_cases c2 : p < m - i + (m + (j - i) - m)
   ·rw [if_pos c2, if_pos (by omega), s2]
    rw [if_neg (by omega), if_neg (by omega)]
   ·rw [if_neg c2, s2, if_pos (by omega)]
    by_cases c3 : p < m - i + (m + j - m)
    ·rw [if_pos c3]
     congr 1; omega
    ·omega
theorem RotR.last {dk d' : Array α} {m i : Nat} (hs : SwR dk d' (m - i) m i) (hi : i ≤ m) : RotR dk d' (m - i) m (m + i) := by
 obtain ⟨s1, s2⟩ := hs
 refine ⟨s1, fun p => ?_⟩
 rw [s2]
 by_cases c1 : p < m - i ∨ m + i ≤ p
 ·rw [if_pos c1, if_neg (by omega), if_neg (by omega)]
 ·rw [if_neg c1]
  by_cases c2 : p < m
  ·rw [if_pos (by omega), if_pos (by omega)]
  ·rw [if_neg (by omega), if_pos (by omega), if_neg (by omega)]
   congr 1; omega

variable (T : α → α → Prop)
def Inc (d : Array α) (lo hi : Nat) : Prop := ∀ i j, lo ≤ i → i < j → j < hi → T d[i]! d[j]!
def Cross (lt : α → α → Bool) (d : Array α) (a m b : Nat) : Prop := ∀ i j, a ≤ i → i < m → m ≤ j → j < b → (lt d[j]! d[i]! = true → T d[j]! d[i]!) ∧ (lt d[j]! d[i]! = false → T d[i]! d[j]!)
variable {T}
theorem Inc.sub {d : Array α} {lo hi lo' hi' : Nat} (h : Inc T d lo hi) (h1 : lo ≤ lo') (h2 : hi' ≤ hi) : Inc T d lo' hi' := fun i j a b c => h i j (by omega) b (by omega)
theorem Inc.same {d d' : Array α} {lo hi : Nat} (h : Inc T d lo hi) (he : ∀ i, lo ≤ i → i < hi → d'[i]! = d[i]!) : Inc T d' lo hi := fun i j a b c => by
 rw [he i a (by omega), he j (by omega) c]; exact h i j a b c
theorem Inc.short {d : Array α} {lo hi : Nat} (h : hi ≤ lo + 1) : Inc T d lo hi := fun i j a b c => by omega

def Cut (lt : α → α → Bool) (d : Array α) (p lo hi s : Nat) : Prop := lo ≤ s ∧ s ≤ hi ∧ (∀ c, lo ≤ c → c < s → lt d[p - c]! d[c]! = false) ∧ (∀ c, s ≤ c → c < hi → lt d[p - c]! d[c]! = true)

theorem merge_halves (htr : ∀ x y z, T x y → T y z → T x z) {lt : α → α → Bool} {d d1 : Array α} {a m b s lo hi : Nat} (ham : a < m) (hmb : m < b)
  (h1 : Inc T d a m) (h2 : Inc T d m b) (hX : Cross T lt d a m b) (mid : Nat) (hmid : mid = (a + b) / 2)
  (hlo : lo = if mid < m then mid + m - b else a) (hhi : hi = if mid < m then mid else m) (hc : Cut lt d (mid + m - 1) lo hi s)
  (hr : RotR d d1 s m (mid + m - s)) :
  (Inc T d1 a s ∧ Inc T d1 s mid ∧ Cross T lt d1 a s mid) ∧ (Inc T d1 mid (mid + m - s) ∧ Inc T d1 (mid + m - s) b ∧ Cross T lt d1 mid (mid + m - s) b) ∧
  (∀ i j, a ≤ i → i < mid → mid ≤ j → j < b → T d1[i]! d1[j]!) ∧ a ≤ s ∧ s ≤ mid ∧ s ≤ m ∧ mid ≤ mid + m - s ∧ mid + m - s ≤ b ∧ m ≤ mid + m - s := by
 obtain ⟨c1, c2, c3, c4⟩ := hc
 obtain ⟨r1, r2⟩ := hr
 have hb0 : a ≤ lo ∧ lo ≤ hi ∧ hi ≤ m ∧ hi ≤ mid ∧ mid + m - b ≤ lo := by
  subst hlo hhi
  split <;> omega
 have hs1 : a ≤ s := by omega
 have hs2 : s ≤ mid := by omega
 have hs3 : s ≤ m := by omega
 have hs4 : mid + m - s ≤ b := by omega
 have eA : ∀ i, a ≤ i → i < s → d1[i]! = d[i]! := fun i _ h => by rw [r2, if_pos (by omega)]
 have eB : ∀ i, s ≤ i → i < mid → d1[i]! = d[i - s + m]! := fun i _ h => by rw [r2, if_neg (by omega), if_pos (by omega)]
 have eC : ∀ i, mid ≤ i → i < mid + m - s → d1[i]! = d[i - (mid - s)]! := fun i _ h => by
  rw [r2, if_neg (by omega), if_neg (by omega)]; congr 1; omega
 have eD : ∀ i, mid + m - s ≤ i → i < b → d1[i]! = d[i]! := fun i h _ => by rw [r2, if_pos (by omega)]
 refine ⟨⟨?_, ?_, ?_⟩, ⟨?_, ?_, ?_⟩, ?_, hs1, hs2, hs3, by omega, hs4, by omega⟩
 ·exact (h1.sub (Nat.le_refl _) hs3).same eA
 ·intro i j x y z
  rw [eB i x (by omega), eB j (by omega) z]
  exact h2 _ _ (by omega) (by omega) (by omega)
 ·intro i j x y z u
  rw [eA i x y, eB j z u]
  exact hX _ _ x (by omega) (by omega) (by omega)
 ·intro i j x y z
  rw [eC i x (by omega), eC j (by omega) z]
  exact h1 _ _ (by omega) (by omega) (by omega)
 ·exact (h2.sub (by omega) (Nat.le_refl _)).same eD
 ·intro i j x y z u
  rw [eC i x y, eD j z u]
  exact hX _ _ (by omega) (by omega) (by omega) u
 ·-- the four kinds of pairs
  have hRL : ∀ i j, m ≤ i → i < mid + m - s → s ≤ j → j < m → T d[i]! d[j]! := by
   intro i j x y z u
   have hsh : s < hi := by
    subst hlo hhi
    split at c2 <;> rename_i q <;> simp only [q, if_true, if_false] at * <;> omega
   have hp := c4 s (Nat.le_refl _) hsh
   have t1 : T d[mid + m - 1 - s]! d[s]! := (hX s (mid + m - 1 - s) (by omega) (by omega) (by omega) (by omega)).1 hp
   have t2 : T d[i]! d[s]! := by
    by_cases e : i = mid + m - 1 - s
    ·rw [e]; exact t1
    ·exact htr _ _ _ (h2 i (mid + m - 1 - s) x (by omega) (by omega)) t1
   by_cases e : j = s
   ·rw [e]; exact t2
   ·exact htr _ _ _ t2 (h1 s j (by omega) (by omega) u)
  have hLR : ∀ i j, a ≤ i → i < s → mid + m - s ≤ j → j < b → T d[i]! d[j]! := by
   intro i j x y z u
   have hsl : lo < s := by
    subst hlo hhi
    split at c1 <;> rename_i q <;> simp only [q, if_true, if_false] at * <;> omega
   have hp := c3 (s - 1) (by omega) (by omega)
   rw [show mid + m - 1 - (s - 1) = mid + m - s by omega] at hp
   have t1 : T d[s - 1]! d[mid + m - s]! := (hX (s - 1) (mid + m - s) (by omega) (by omega) (by omega) (by omega)).2 hp
   have t2 : T d[i]! d[mid + m - s]! := by
    by_cases e : i = s - 1
    ·rw [e]; exact t1
    ·exact htr _ _ _ (h1 i (s - 1) x (by omega) (by omega)) t1
   by_cases e : j = mid + m - s
   ·rw [e]; exact t2
   ·exact htr _ _ _ t2 (h2 (mid + m - s) j (by omega) (by omega) u)
  intro i j x y z u
  by_cases e1 : i < s
  ·rw [eA i x e1]
   by_cases e2 : j < mid + m - s
   ·rw [eC j z e2]; exact h1 _ _ x (by omega) (by omega)
   ·rw [eD j (by omega) u]; exact hLR i j x e1 (by omega) u
  ·rw [eB i (by omega) y]
   by_cases e2 : j < mid + m - s
   ·rw [eC j z e2]; exact hRL _ _ (by omega) (by omega) (by omega) (by omega)
   ·rw [eD j (by omega) u]; exact h2 _ _ (by omega) (by omega) u
end
section
variable {α : Type} [Inhabited α] {T : α → α → Prop}
theorem permIn_all2 {d d' : Array α} {a b : Nat} (p : α → Prop) (hb : b ≤ d.size) (hp : PermIn a b d d') (h : ∀ i, a ≤ i → i < b → p d[i]!) : ∀ i, a ≤ i → i < b → p d'[i]! := permIn_all d d' a b p hb hp h
theorem merge_join {d1 d2 d3 : Array α} {a mid b : Nat} (hb : b ≤ d1.size) (ha : a ≤ mid) (hm : mid ≤ b) (hx : ∀ i j, a ≤ i → i < mid → mid ≤ j → j < b → T d1[i]! d1[j]!)
  (p2 : PermIn a mid d1 d2) (i2 : Inc T d2 a mid) (p3 : PermIn mid b d2 d3) (i3 : Inc T d3 mid b) : Inc T d3 a b ∧ PermIn a b d1 d3 := by
 have e3 : ∀ i, i < mid → d3[i]! = d2[i]! := fun i h => p3.2.1 i (Or.inl h)
 have e2 : ∀ i, mid ≤ i → d2[i]! = d1[i]! := fun i h => p2.2.1 i (Or.inr h)
 have s2 : d2.size = d1.size := p2.1
 have hx2 : ∀ i j, a ≤ i → i < mid → mid ≤ j → j < b → T d2[i]! d2[j]! := by
  intro i j x y z u
  rw [e2 j z]
  exact permIn_all2 (fun v => T v d1[j]!) (by omega) p2 (fun i x y => hx i j x y z u) i x y
 have hx3 : ∀ i j, a ≤ i → i < mid → mid ≤ j → j < b → T d3[i]! d3[j]! := by
  intro i j x y z u
  rw [e3 i y]
  exact permIn_all2 (fun v => T d2[i]! v) (by omega) p3 (fun j z u => hx2 i j x y z u) j z u
 refine ⟨fun i j x y z => ?_, ?_⟩
 ·by_cases h1 : j < mid
  ·rw [e3 i (by omega), e3 j h1]; exact i2 i j x y h1
  ·by_cases h2 : i < mid
   ·exact hx3 i j x h2 (by omega) z
   ·exact i3 i j (by omega) y z
 ·exact permIn_trans _ _ _ _ _ (permIn_mono d1 d2 a mid a b (Nat.le_refl _) hm hb p2) (permIn_mono d2 d3 mid b a b ha (Nat.le_refl _) (by omega) p3)

def MovU (d d' : Array α) (a k : Nat) : Prop := d'.size = d.size ∧ ∀ t, d'[t]! = if a ≤ t ∧ t < k then d[t + 1]! else if t = k then d[a]! else d[t]!
def MovD (d d' : Array α) (m k : Nat) : Prop := d'.size = d.size ∧ ∀ t, d'[t]! = if k < t ∧ t ≤ m then d[t - 1]! else if t = k then d[m]! else d[t]!
theorem MovU.zero (d : Array α) (a : Nat) : MovU d d a a := ⟨rfl, fun t => by
 rw [if_neg (by omega)]
 by_cases e : t = a
 ·rw [if_pos e, e]
 ·rw [if_neg e]⟩
theorem MovD.zero (d : Array α) (m : Nat) : MovD d d m m := ⟨rfl, fun t => by
 rw [if_neg (by omega)]
 by_cases e : t = m
 ·rw [if_pos e, e]
 ·rw [if_neg e]⟩
theorem MovU.step {d dk : Array α} {a k : Nat} (h : MovU d dk a k) (ha : a ≤ k) (hk : k + 1 < d.size) : MovU d (swp dk k (k + 1)) a (k + 1) := by
 obtain ⟨h1, h2⟩ := h
 refine ⟨by rw [size_swp, h1], fun t => ?_⟩
 by_cases e1 : t = k
 ·subst e1
  rw [swp_left _ _ _ (by omega) (by omega), h2, if_neg (by omega), if_neg (by omega), if_pos (by omega)]
 ·by_cases e2 : t = k + 1
  ·subst e2
   rw [swp_right _ _ _ (by omega), h2, if_neg (by omega), if_pos rfl, if_neg (by omega), if_pos rfl]
  ·rw [swp_other _ _ _ _ e1 e2, h2]
   by_cases c1 : a ≤ t ∧ t < k
   ·rw [if_pos c1, if_pos (by omega)]
   ·have n1 : ¬ (a ≤ t ∧ t < k + 1) := by omega
    rw [if_neg c1, if_neg n1, if_neg e1, if_neg e2]
theorem MovD.step {d dk : Array α} {m k : Nat} (h : MovD d dk m (k + 1)) (ha : k + 1 ≤ m) (hk : m < d.size) : MovD d (swp dk (k + 1) k) m k := by
 obtain ⟨h1, h2⟩ := h
 refine ⟨by rw [size_swp, h1], fun t => ?_⟩
 by_cases e1 : t = k + 1
 ·subst e1
  rw [swp_left _ _ _ (by omega) (by omega), h2, if_neg (by omega), if_neg (by omega), if_pos (by omega)]
  congr 1
 ·by_cases e2 : t = k
  ·subst e2
   rw [swp_right _ _ _ (by omega), h2, if_neg (by omega), if_pos rfl, if_neg (by omega), if_pos rfl]
  ·rw [swp_other _ _ _ _ e1 e2, h2]
   by_cases c1 : k + 1 < t ∧ t ≤ m
   ·rw [if_pos c1, if_pos (by omega)]
   ·have n1 : ¬ (k < t ∧ t ≤ m) := by omega
    rw [if_neg c1, if_neg n1, if_neg e1, if_neg e2]
theorem MovU.inc {lt : α → α → Bool} {d d' : Array α} {a b i : Nat} (h : MovU d d' a (i - 1)) (h2 : Inc T d (a + 1) b) (hX : Cross T lt d a (a + 1) b)
  (hi : a + 1 ≤ i ∧ i ≤ b) (c1 : ∀ c, a + 1 ≤ c → c < i → lt d[c]! d[a]! = true) (c2 : ∀ c, i ≤ c → c < b → lt d[c]! d[a]! = false) : Inc T d' a b := by
 intro p q x y z
 rw [h.2, h.2]
 by_cases e1 : p < i - 1
 ·rw [if_pos ⟨x, e1⟩]
  by_cases e2 : q < i - 1
  ·rw [if_pos (by omega)]; exact h2 _ _ (by omega) (by omega) (by omega)
  ·rw [if_neg (by omega)]
   by_cases e3 : q = i - 1
   ·rw [if_pos e3]
    exact (hX a (p + 1) (by omega) (by omega) (by omega) (by omega)).1 (c1 _ (by omega) (by omega))
   ·rw [if_neg e3]; exact h2 _ _ (by omega) (by omega) z
 ·rw [if_neg (by omega)]
  by_cases e4 : p = i - 1
  ·rw [if_pos e4, if_neg (by omega), if_neg (by omega)]
   exact (hX a q (by omega) (by omega) (by omega) z).2 (c2 q (by omega) z)
  ·rw [if_neg e4, if_neg (by omega), if_neg (by omega)]
   exact h2 _ _ (by omega) y z
theorem MovD.inc {lt : α → α → Bool} {d d' : Array α} {a m i : Nat} (h : MovD d d' m i) (h1 : Inc T d a m) (hX : Cross T lt d a m (m + 1))
  (hi : a ≤ i ∧ i ≤ m) (c1 : ∀ c, a ≤ c → c < i → lt d[m]! d[c]! = false) (c2 : ∀ c, i ≤ c → c < m → lt d[m]! d[c]! = true) : Inc T d' a (m + 1) := by
 intro p q x y z
 rw [h.2, h.2]
 by_cases e1 : i < q
 ·rw [if_pos (show i < q ∧ q ≤ m by omega)]
  by_cases e2 : i < p
  ·rw [if_pos (by omega)]; exact h1 _ _ (by omega) (by omega) (by omega)
  ·rw [if_neg (by omega)]
   by_cases e3 : p = i
   ·rw [if_pos e3]
    exact (hX (q - 1) m (by omega) (by omega) (by omega) (by omega)).1 (c2 _ (by omega) (by omega))
   ·rw [if_neg e3]; exact h1 _ _ (by omega) (by omega) (by omega)
 ·rw [if_neg (show ¬ (i < q ∧ q ≤ m) by omega)]
  by_cases e4 : q = i
  ·rw [if_pos e4, if_neg (by omega), if_neg (by omega)]
   exact (hX p m (by omega) (by omega) (by omega) (by omega)).2 (c1 p (by omega) (by omega))
  ·rw [if_neg e4, if_neg (by omega), if_neg (by omega)]
   exact h1 _ _ (by omega) y (by omega)

variable (tg : α → Nat) (lt : α → α → Bool)
def Tie (x y : α) : Prop := lt x y = true ∨ lt y x = false ∧ tg x < tg y
variable {tg lt}
omit [Inhabited α] in
theorem Tie.trans (hO : SWO lt) (x y z : α) (h : Tie tg lt x y) (k : Tie tg lt y z) : Tie tg lt x z := by
 have key : ∀ a b c : α, lt a b = true → lt c b = false → lt a c = true := fun a b c h1 h2 => by
  cases h3 : lt a c
  ·have := hO.ntrans _ _ _ h3 h2; rw [h1] at this; cases this
  ·rfl
 have key2 : ∀ a b c : α, lt b a = false → lt b c = true → lt a c = true := fun a b c h1 h2 => by
  cases h3 : lt a c
  ·have := hO.ntrans _ _ _ h1 h3; rw [h2] at this; cases this
  ·rfl
 rcases h with h | ⟨h1, h2⟩ <;> rcases k with k | ⟨k1, k2⟩
 ·exact Or.inl (hO.trans _ _ _ h k)
 ·exact Or.inl (key _ _ _ h k1)
 ·exact Or.inl (key2 _ _ _ h1 k)
 ·exact Or.inr ⟨hO.ntrans _ _ _ k1 h1, by omega⟩
def Blk (tg : α → Nat) (lt : α → α → Bool) (d : Array α) (lo hi : Nat) : Prop := Inc (Tie tg lt) d lo hi ∧ ∀ i, lo ≤ i → i < hi → lo ≤ tg d[i]! ∧ tg d[i]! < hi
theorem Blk.cross {d : Array α} {a m b : Nat} (h1 : Blk tg lt d a m) (h2 : Blk tg lt d m b) : Cross (Tie tg lt) lt d a m b := by
 intro i j x y z u
 have t1 := h1.2 i x y
 have t2 := h2.2 j z u
 exact ⟨fun h => Or.inl h, fun h => Or.inr ⟨h, by omega⟩⟩
theorem Blk.merged {d d' : Array α} {a m b : Nat} (h1 : Blk tg lt d a m) (h2 : Blk tg lt d m b) (ham : a ≤ m) (hmb : m ≤ b) (hb : b ≤ d.size) (hp : PermIn a b d d') (hi : Inc (Tie tg lt) d' a b) : Blk tg lt d' a b := by
 refine ⟨hi, permIn_all2 (fun v => a ≤ tg v ∧ tg v < b) hb hp ?_⟩
 intro i x y
 by_cases e : i < m
 ·have := h1.2 i x e; exact ⟨this.1, by omega⟩
 ·have := h2.2 i (by omega) y; exact ⟨by omega, this.2⟩
theorem Blk.other {d d' : Array α} {a b lo hi : Nat} (h : Blk tg lt d lo hi) (hp : PermIn a b d d') (ho : hi ≤ a ∨ b ≤ lo) : Blk tg lt d' lo hi := by
 have e : ∀ i, lo ≤ i → i < hi → d'[i]! = d[i]! := fun i x y => hp.2.1 i (by omega)
 exact ⟨h.1.same e, fun i x y => by rw [e i x y]; exact h.2 i x y⟩
def Runs (tg : α → Nat) (lt : α → α → Bool) (d : Array α) (bs s n : Nat) : Prop := ∀ k, s + k * bs < n → Blk tg lt d (s + k * bs) (min (s + k * bs + bs) n)
def RunsTo (tg : α → Nat) (lt : α → α → Bool) (d : Array α) (bs r : Nat) : Prop := ∀ k, k < r → Blk tg lt d (k * bs) (k * bs + bs)
theorem RunsTo.runs {d : Array α} {bs r n : Nat} (h : RunsTo tg lt d bs r) (hr : r * bs ≤ n) (hl : r * bs < n → Blk tg lt d (r * bs) n) (hle : n ≤ r * bs + bs) : Runs tg lt d bs 0 n := by
 intro k hk
 rw [Nat.zero_add] at *
 by_cases e : k < r
 ·have h1 : (k + 1) * bs ≤ r * bs := Nat.mul_le_mul_right _ e
  rw [Nat.succ_mul] at h1
  rw [Nat.min_eq_left (by omega)]
  exact h k e
 ·have h1 : k = r := by
   rcases Nat.lt_or_ge r k with h2 | h2
   ·have := Nat.mul_le_mul_right bs (show r + 1 ≤ k from h2)
    rw [Nat.succ_mul] at this; omega
   ·omega
  subst h1
  rw [Nat.min_eq_right hle]
  exact hl hk
theorem Runs.tail {d : Array α} {bs s n : Nat} (h : Runs tg lt d bs s n) (j : Nat) : Runs tg lt d bs (s + j * bs) n := by
 intro k hk
 have := h (j + k) (by rw [Nat.add_mul]; omega)
 rw [Nat.add_mul, ← Nat.add_assoc] at this
 exact this
theorem Runs.other {d d' : Array α} {bs s n a b : Nat} (h : Runs tg lt d bs s n) (hp : PermIn a b d d') (hb : b ≤ s) : Runs tg lt d' bs s n := fun k hk => (h k hk).other hp (Or.inr (by omega))
theorem RunsTo.other {d d' : Array α} {bs r a b : Nat} (h : RunsTo tg lt d bs r) (hp : PermIn a b d d') (hb : r * bs ≤ a) : RunsTo tg lt d' bs r := fun k hk => (h k hk).other hp (Or.inl (by
 have := Nat.mul_le_mul_right bs (show k + 1 ≤ r from hk)
 rw [Nat.succ_mul] at this; omega))
theorem RunsTo.more {d : Array α} {bs r : Nat} (h : RunsTo tg lt d bs r) (hb : Blk tg lt d (r * bs) (r * bs + bs)) : RunsTo tg lt d bs (r + 1) := fun k hk => by
 by_cases e : k < r
 ·exact h k e
 ·obtain rfl : k = r := by omega
  exact hb
theorem Runs.first {d : Array α} {bs s n : Nat} (h : Runs tg lt d bs s n) (hs : s + bs ≤ n) (h0 : 0 < bs) : Blk tg lt d s (s + bs) := by
 have := h 0 (by omega)
 rw [Nat.zero_mul, Nat.add_zero, Nat.min_eq_left hs] at this
 exact this
theorem Runs.last {d : Array α} {bs s n : Nat} (h : Runs tg lt d bs s n) (hs : n ≤ s + bs) (h0 : s < n) : Blk tg lt d s n := by
 have := h 0 (by omega)
 rw [Nat.zero_mul, Nat.add_zero, Nat.min_eq_right hs] at this
 exact this

def tieB (tg : α → Nat) (lt : α → α → Bool) (x y : α) : Bool := lt x y || (!lt y x && decide (tg x < tg y))
omit [Inhabited α] in
theorem tieB_iff {x y : α} : tieB tg lt x y = true ↔ Tie tg lt x y := by simp [tieB, Tie]
omit [Inhabited α] in
theorem tieB_swo (hO : SWO lt) : SWO (tieB tg lt) := by
 refine ⟨fun x => ?_, fun x y z h k => ?_, fun x y z h k => ?_⟩
 ·simp [tieB, hO.irrefl]
 ·exact tieB_iff.2 (Tie.trans hO x y z (tieB_iff.1 h) (tieB_iff.1 k))
 ·-- not less is transitive
  simp only [tieB, Bool.or_eq_false_iff, Bool.and_eq_false_iff, Bool.not_eq_false', decide_eq_false_iff_not, Nat.not_lt] at *
  obtain ⟨h1, h2⟩ := h
  obtain ⟨k1, k2⟩ := k
  refine ⟨hO.ntrans _ _ _ h1 k1, ?_⟩
  rcases h2 with h2 | h2
  ·left
   cases h3 : lt z x
   ·have h4 := hO.ntrans _ _ _ k1 h3; rw [h2] at h4; cases h4
   ·rfl
  ·rcases k2 with k2 | k2
   ·left
    cases h3 : lt z x
    ·have h4 := hO.ntrans _ _ _ h3 h1; rw [k2] at h4; cases h4
    ·rfl
   ·right; omega
theorem insInner_tie (a : Nat) : ∀ (j : Nat) (d : Array α), j < d.size → (∀ p, a ≤ p → p < j → tg d[p]! < tg d[j]!) → insInner lt a j d = insInner (tieB tg lt) a j d
 | 0, d, _, _ => rfl
 | j + 1, d, hs, h => by
  unfold insInner
  by_cases ha : a < j + 1
  ·have ht := h j (by omega) (by omega)
   have e : tieB tg lt d[j + 1]! d[j]! = lt d[j + 1]! d[j]! := by
    unfold tieB; rw [decide_eq_false (by omega : ¬ tg d[j + 1]! < tg d[j]!), Bool.and_false, Bool.or_false]
   rw [e]
   split
   ·refine insInner_tie a j _ (by rw [size_swp]; omega) ?_
    intro p x y
    rw [swp_right _ _ _ (by omega), swp_other _ _ _ _ (by omega) (by omega)]
    exact h p x (by omega)
   ·rfl
  ·have : ¬ (j + 1 > a) := by omega
   simp [this]
theorem insInner_perm (lt : α → α → Bool) (a b : Nat) : ∀ (j : Nat) (d : Array α), j < b → b ≤ d.size → PermIn a b d (insInner lt a j d)
 | 0, d, _, _ => permIn_refl d a b
 | j + 1, d, hj, hb => by
  unfold insInner
  split
  ·rename_i hc
   have ha : a < j + 1 := by simp at hc; omega
   exact permIn_trans _ _ _ _ _ (swp_permIn d a b (j + 1) j (by omega) hj (by omega) (by omega) hb) (insInner_perm lt a b j _ (by omega) (by rw [size_swp]; exact hb))
  ·exact permIn_refl d a b
theorem insOuter_tie (a b : Nat) : ∀ (f i : Nat) (d : Array α), b - i ≤ f → a ≤ i → b ≤ d.size → (∀ p q, a ≤ p → p < q → i ≤ q → q < b → tg d[p]! < tg d[q]!) → insOuter lt a b i d = insOuter (tieB tg lt) a b i d
 | 0, i, d, hf, ha, hb, h => by rw [insOuter_stop lt _ _ _ _ (by omega), insOuter_stop _ _ _ _ _ (by omega)]
 | f + 1, i, d, hf, ha, hb, h => by
  by_cases hi : i < b
  ·rw [insOuter_go lt _ _ _ _ hi, insOuter_go _ _ _ _ _ hi]
   have e := insInner_tie (tg := tg) (lt := lt) a i d (by omega) (fun p x y => h p i x y (Nat.le_refl _) hi)
   have hp : PermIn a (i + 1) d (insInner lt a i d) := insInner_perm lt a (i + 1) i d (by omega) (by omega)
   rw [← e]
   refine insOuter_tie a b f (i + 1) _ (by omega) (by omega) (by rw [hp.1]; exact hb) ?_
   intro p q x y z u
   rw [hp.2.1 q (Or.inr (by omega))]
   by_cases c : p < i + 1
   ·exact permIn_all2 (fun v => tg v < tg d[q]!) (by omega) hp (fun r r1 r2 => h r q r1 (by omega) (by omega) u) p x c
   ·rw [hp.2.1 p (Or.inr (by omega))]; exact h p q x y (by omega) u
  ·rw [insOuter_stop lt _ _ _ _ hi, insOuter_stop _ _ _ _ _ hi]
theorem insertion_blk (hO : SWO lt) {d : Array α} {a b : Nat} (hab : a ≤ b) (hb : b ≤ d.size) (ht : ∀ i, a ≤ i → i < b → tg d[i]! = i) : PermIn a b d (insertionSort lt d a b) ∧ Blk tg lt (insertionSort lt d a b) a b := by
 have e : insertionSort lt d a b = insertionSort (tieB tg lt) d a b := insOuter_tie a b (b - (a + 1)) (a + 1) d (Nat.le_refl _) (by omega) hb (fun p q x y z u => by rw [ht p x (by omega), ht q (by omega) u]; exact y)
 obtain ⟨h1, h2⟩ := insertionSort_holds (tieB_swo (tg := tg) hO) d a b hab hb
 rw [← e] at h1 h2
 have h3 := permIn_all2 (fun v => a ≤ tg v ∧ tg v < b) hb h1 (fun i x y => by rw [ht i x y]; exact ⟨x, y⟩)
 refine ⟨h1, fun i j x y z => ?_, h3⟩
 have h4 := h2 i j x y z
 have hn : ((List.range' a (b - a)).map fun k => tg (insertionSort lt d a b)[k]!).Nodup := by
  have p := h1.2.2
  rw [extract_toList _ a b (by rw [h1.1]; exact hb), extract_toList d a b hb] at p
  have p2 := p.map tg
  rw [List.map_map, List.map_map] at p2
  refine p2.nodup_iff.2 ?_
  have e2 : (List.range' a (b - a)).map (tg ∘ fun i => d[i]!) = List.range' a (b - a) := by
   conv => rhs; rw [← List.map_id (List.range' a (b - a))]
   refine List.map_congr_left fun k hk => ?_
   have := List.mem_range'_1.1 hk
   exact ht k this.1 (by omega)
  rw [e2]
  exact List.nodup_range'
 have hne : tg (insertionSort lt d a b)[i]! ≠ tg (insertionSort lt d a b)[j]! := fun e => by
  have := nodup_inj hn i (List.mem_range'_1.2 (by omega)) j (List.mem_range'_1.2 (by omega)) e
  omega
 simp only [tieB, Bool.or_eq_false_iff, Bool.and_eq_false_iff, Bool.not_eq_false', decide_eq_false_iff_not, Nat.not_lt] at h4
 rcases h4.2 with h5 | h5
 ·exact Or.inl h5
 ·cases h6 : lt (insertionSort lt d a b)[i]! (insertionSort lt d a b)[j]!
  ·exact Or.inr ⟨h4.1, by omega⟩
  ·exact Or.inl h6
end
section
variable {α : Type} {tg : α → Nat} {lt : α → α → Bool}
theorem tieB_late {x y : α} (h : tg y < tg x) : tieB tg lt x y = lt x y := by
 unfold tieB; rw [decide_eq_false (by omega : ¬ tg x < tg y), Bool.and_false, Bool.or_false]
theorem insR_tie (x : α) : ∀ l : List α, (∀ y ∈ l, tg y < tg x) → insR (tieB tg lt) x l = insR lt x l
 | [], _ => rfl
 | y :: r, h => by
  unfold insR
  rw [tieB_late (h y (by simp)), insR_tie x r fun z hz => h z (by simp [hz])]
theorem sortR_tie : ∀ (R L : List α), (∀ y ∈ L, ∀ x ∈ R, tg y < tg x) → R.Pairwise (fun a b => tg a < tg b) → sortR (tieB tg lt) L R = sortR lt L R
 | [], L, _, _ => rfl
 | x :: R, L, h, hR => by
  obtain ⟨h1, h2⟩ := List.pairwise_cons.1 hR
  unfold sortR
  rw [insR_tie x L fun y hy => h y hy x (by simp)]
  refine sortR_tie R _ ?_ h2
  intro y hy z hz
  rcases List.mem_cons.1 ((insR_perm lt x L).mem_iff.1 hy) with rfl | hy
  ·exact h1 z hz
  ·exact h y hy z (by simp [hz])
theorem stable_unique (hO : SWO lt) {l l' : List α} (hp : l'.Perm l) (hs : l'.Pairwise (Tie tg lt)) (ht : l.Pairwise (fun a b => tg a < tg b)) : l' = sortS lt l := by
 have e : sortS (tieB tg lt) l = sortS lt l := by
  unfold sortS; rw [sortR_tie l [] (fun y hy => by simp at hy) ht]
 rw [← e]
 have hB := tieB_swo (tg := tg) hO
 have hn : (l.map tg).Nodup := by
  rw [List.nodup_iff_pairwise_ne, List.pairwise_map]
  exact ht.imp fun h => Nat.ne_of_lt h
 refine List.Perm.eq_of_pairwise (le := fun a b => tieB tg lt b a = false) ?_ (hs.imp ?_) (sortS_sorted hB l) (hp.trans (sortS_perm _ l).symm)
 ·intro a b ha hb h1 h2
  refine nodup_inj hn a (hp.mem_iff.1 ha) b ((sortS_perm _ l).mem_iff.1 hb) ?_
  simp only [tieB, Bool.or_eq_false_iff, Bool.and_eq_false_iff, Bool.not_eq_false', decide_eq_false_iff_not, Nat.not_lt] at h1 h2
  rcases h1.2 with h3 | h3
  ·rw [h2.1] at h3; cases h3
  ·rcases h2.2 with h4 | h4
   ·rw [h1.1] at h4; cases h4
   ·omega
 ·intro a b h
  have h1 := tieB_iff.2 h
  cases h2 : tieB tg lt b a
  ·rfl
  ·have := hB.trans _ _ _ h1 h2; rw [hB.irrefl] at this; cases this
theorem inc_list [Inhabited α] {T : α → α → Prop} {d : Array α} (h : Inc T d 0 d.size) : d.toList.Pairwise T := by
 rw [List.pairwise_iff_getElem]
 intro i j hi hj hij
 have := h i j (Nat.zero_le _) hij (by simpa using hj)
 rw [getElem!_pos d i (by simpa using hi), getElem!_pos d j (by simpa using hj)] at this
 simpa using this
end
section
variable {α : Type} [Inhabited α]
theorem cross_f {T : α → α → Prop} (htr : ∀ x y z, T x y → T y z → T x z) (hirr : ∀ x, ¬ T x x) {lt : α → α → Bool} {d : Array α} {a m b : Nat} (h1 : Inc T d a m) (h2 : Inc T d m b) (hX : Cross T lt d a m b)
  {i j i' j' : Nat} (hi : a ≤ i' ∧ i' ≤ i ∧ i < m) (hj : m ≤ j ∧ j ≤ j' ∧ j' < b) (h : lt d[j]! d[i]! = false) : lt d[j']! d[i']! = false := by
 have t1 := (hX i j (by omega) (by omega) (by omega) (by omega)).2 h
 have t2 : T d[i']! d[j]! := by
  by_cases e : i' = i
  ·rw [e]; exact t1
  ·exact htr _ _ _ (h1 i' i (by omega) (by omega) (by omega)) t1
 have t3 : T d[i']! d[j']! := by
  by_cases e : j' = j
  ·rw [e]; exact t2
  ·exact htr _ _ _ t2 (h2 j j' (by omega) (by omega) (by omega))
 cases hc : lt d[j']! d[i']!
 ·rfl
 ·exact absurd (htr _ _ _ t3 ((hX i' j' (by omega) (by omega) (by omega) (by omega)).1 hc)) (hirr _)
theorem cross_t {T : α → α → Prop} (htr : ∀ x y z, T x y → T y z → T x z) (hirr : ∀ x, ¬ T x x) {lt : α → α → Bool} {d : Array α} {a m b : Nat} (h1 : Inc T d a m) (h2 : Inc T d m b) (hX : Cross T lt d a m b)
  {i j i' j' : Nat} (hi : a ≤ i ∧ i ≤ i' ∧ i' < m) (hj : m ≤ j' ∧ j' ≤ j ∧ j < b) (h : lt d[j]! d[i]! = true) : lt d[j']! d[i']! = true := by
 cases hc : lt d[j']! d[i']!
 ·have := cross_f htr hirr h1 h2 hX (i := i') (j := j') (i' := i) (j' := j) ⟨by omega, by omega, by omega⟩ ⟨by omega, by omega, by omega⟩ hc
  rw [h] at this; cases this
 ·rfl
theorem RotR.none {d : Array α} {a m b : Nat} (h1 : a ≤ m) (h2 : m ≤ b) (h : a = m ∨ b = m) : RotR d d a m b := by
 refine ⟨rfl, fun q => ?_⟩
 by_cases c1 : q < a ∨ b ≤ q
 ·rw [if_pos c1]
 ·rw [if_neg c1]
  by_cases c2 : q < a + (b - m)
  ·rw [if_pos c2, show q - a + m = q by omega]
  ·rw [if_neg c2, show q - (b - m) = q by omega]
omit [Inhabited α] in
theorem Tie.irrefl {tg : α → Nat} {lt : α → α → Bool} (hO : SWO lt) (x : α) : ¬ Tie tg lt x x := by
 intro h
 rcases h with h | h
 ·rw [hO.irrefl] at h; cases h
 ·exact absurd h.2 (Nat.lt_irrefl _)
end
end Go.Proofs.YtaneolfnnkppbaaGreatDoor
namespace Go.Proofs.YtaneolfnnkppbaaGreatDoor
open Go Go.Shelf Go.RowKit Go.Lib Go.Sort
section
variable {α β : Type} [Inhabited α] [Inhabited β]
theorem flatK_map (enc : β → List Value) (f : α → β) (k : Nat) (d : Array α) : flatK (fun x => enc (f x)) k d = flatK enc k (d.map f) := by
 unfold flatK
 rw [Array.size_map]
 refine Array.ext (by simp) fun i h1 h2 => ?_
 have h1' : i < d.size * k := by simpa using h1
 simp only [Array.getElem_map, Array.getElem_range]
 have hk : i / k < d.size := Nat.div_lt_of_lt_mul (by rw [Nat.mul_comm]; exact h1')
 rw [getElem!_pos d _ hk, getElem!_pos (d.map f) _ (by simpa using hk)]
 simp
omit [Inhabited α] in
theorem zip_fst (d : Array α) : d.zipIdx.map Prod.fst = d := by
 apply Array.ext
 ·simp
 ·intro i h1 h2; simp
theorem zip_snd (d : Array α) (i : Nat) (h : i < d.size) : (d.zipIdx[i]!).2 = i := by
 rw [getElem!_pos d.zipIdx i (by simpa using h)]; simp
theorem zip_holds {enc : α → List Value} {k : Nat} {w : World} {blk off : Nat} {d : Array α} (h : HoldsK enc k w blk off d) : HoldsK (fun x : α × Nat => enc x.1) k w blk off d.zipIdx := by
 unfold HoldsK at *
 rw [flatK_map enc Prod.fst, zip_fst]; exact h
theorem stab_end {enc : α → List Value} {k : Nat} {w w1 : World} {blk off : Nat} {d : Array α} {cf : α → α → Int} (hO : SWO (ltOf fun x y : α × Nat => cf x.1 y.1)) {d' : Array (α × Nat)}
  (S : SWK (fun x : α × Nat => enc x.1) k w blk off d' w1) (hi : Inc (Tie Prod.snd (ltOf fun x y : α × Nat => cf x.1 y.1)) d' 0 d.size) (p : PermIn 0 d.size d.zipIdx d') :
  ∃ m r os, w1 = sortWorldK enc k w blk off m r os ∧ r.toList = sortS (ltOf cf) d.toList := by
 obtain ⟨m, os, rfl⟩ := S
 refine ⟨m, d'.map Prod.fst, os, by unfold sortWorldK putRowK; rw [flatK_map enc Prod.fst], ?_⟩
 have hs : d'.size = d.size := by rw [p.1]; simp
 have hp : d'.toList.Perm d.zipIdx.toList := by
  have h := p.2.2
  rwa [show d'.extract 0 d.size = d' by rw [← hs]; simp, show d.zipIdx.extract 0 d.size = d.zipIdx by simp] at h
 have hinc : d'.toList.Pairwise (Tie Prod.snd (ltOf fun x y : α × Nat => cf x.1 y.1)) := inc_list (by rw [hs]; exact hi)
 have htag : d.zipIdx.toList.Pairwise (fun a b => a.2 < b.2) := by
  rw [List.pairwise_iff_getElem]
  intro i j h1 h2 h3
  simp
  exact h3
 have hu := stable_unique hO hp hinc htag
 rw [Array.toList_map, hu]
 have e4 := sortS_map Prod.fst (ltOf cf) d.zipIdx.toList
 rw [show d.zipIdx.toList.map Prod.fst = d.toList by rw [← Array.toList_map, zip_fst]] at e4
 exact e4
end
section
variable {α β : Type}
theorem swo_pull {lt : β → β → Bool} (h : SWO lt) (f : α → β) : SWO (fun x y => lt (f x) (f y)) := ⟨fun _ => h.irrefl _, fun _ _ _ => h.trans _ _ _, fun _ _ _ => h.ntrans _ _ _⟩
theorem swo_lex {l1 l2 : α → α → Bool} (h1 : SWO l1) (h2 : SWO l2) : SWO (fun x y => l1 x y || (!l1 y x && l2 x y)) := by
 refine ⟨fun x => by simp [h1.irrefl, h2.irrefl], fun x y z h k => ?_, fun x y z h k => ?_⟩
 ·simp only [Bool.or_eq_true, Bool.and_eq_true, Bool.not_eq_true'] at *
  rcases h with h | ⟨h, h'⟩ <;> rcases k with k | ⟨k, k'⟩
  ·exact Or.inl (h1.trans _ _ _ h k)
  ·refine Or.inl ?_
   cases e : l1 x z
   ·have := h1.ntrans x z y e k; rw [h] at this; cases this
   ·rfl
  ·refine Or.inl ?_
   cases e : l1 x z
   ·have := h1.ntrans y x z h e; rw [k] at this; cases this
   ·rfl
  ·exact Or.inr ⟨h1.ntrans z y x k h, h2.trans _ _ _ h' k'⟩
 ·simp only [Bool.or_eq_false_iff, Bool.and_eq_false_iff, Bool.not_eq_false'] at *
  obtain ⟨a1, a2⟩ := h
  obtain ⟨b1, b2⟩ := k
  refine ⟨h1.ntrans _ _ _ a1 b1, ?_⟩
  cases e : l1 z x
  ·have f1 := h1.ntrans y z x b1 e
   have f2 := h1.ntrans z x y e a1
   exact Or.inr (h2.ntrans _ _ _ (a2.resolve_left (by rw [f1]; simp)) (b2.resolve_left (by rw [f2]; simp)))
  ·exact Or.inl rfl
end
theorem swo_slt : SWO slt := ⟨slt_irrefl, fun _ _ _ => slt_trans, fun _ _ _ => slt_ntrans⟩
theorem swo_int : SWO (fun a b : Int => decide (a < b)) := ⟨fun x => by simp, fun x y z h k => by simp at *; omega, fun x y z h k => by simp at *; omega⟩
theorem slt_tie (a b : ByteArray) : (!slt b a && !slt a b) = decide (a = b) := by
 rw [slt_trich a b, seq_eq]
 by_cases h : a = b
 ·subst h; simp [slt_irrefl]
 ·cases slt b a <;> simp [h, Ne.symm h]
theorem swo_clauseLt : SWO clauseLt := by
 have h := swo_lex (swo_pull swo_slt Clause.license) (swo_lex (swo_pull swo_int Clause.way) (swo_lex (swo_pull swo_int Clause.relation) (swo_pull swo_int Clause.duty)))
 have e : clauseLt = fun x y => slt x.license y.license || (!slt y.license x.license && (decide (x.way < y.way) || (!decide (y.way < x.way) && (decide (x.relation < y.relation) || (!decide (y.relation < x.relation) && decide (x.duty < y.duty)))))) := by
  funext x y
  rw [Bool.eq_iff_iff, clauseLt_def]
  have t := slt_tie x.license y.license
  cases h1 : slt x.license y.license
  ·rw [h1] at t
   cases h2 : slt y.license x.license
   ·rw [h2] at t
    have : x.license = y.license := by simpa using t.symm
    simp [this]
    omega
   ·rw [h2] at t
    have : ¬ x.license = y.license := by simpa using t.symm
    simp [this]
  ·simp
 rw [e]; exact h
theorem swo_pairLt : SWO pairLt := by
 have h := swo_lex (swo_pull swo_slt Pair.a) (swo_pull swo_slt Pair.b)
 have e : pairLt = fun x y => slt x.a y.a || (!slt y.a x.a && slt x.b y.b) := by
  funext x y
  unfold pairLt
  have t := slt_tie x.a y.a
  rw [seq_eq]
  cases h1 : slt x.a y.a
  ·rw [h1] at t
   rw [show decide (x.a = y.a) = !slt y.a x.a by simpa using t.symm]
  ·simp
 rw [e]; exact h
theorem swo_of {α β : Type} {lt : β → β → Bool} (h : SWO lt) (f : α → β) {cf : α → α → Int} (e : ∀ x y, decide (cf x y < 0) = lt (f x) (f y)) : SWO (ltOf cf) := by
 have : ltOf cf = fun x y => lt (f x) (f y) := by funext x y; exact e x y
 rw [this]; exact swo_pull h f
end Go.Proofs.YtaneolfnnkppbaaGreatDoor
