/- The exchange and the rotation of ranges of a stable sort, at api.Exception. -/
import Derived.Test.YtaneolfnnkppbaaGreatDoorProg
import Derived.Shelf.SlSortCmp.KitK
import Derived.Test.YtaneolfnnkppbaaGreatDoorJBase
import Derived.Test.YtaneolfnnkppbaaGreatDoorJSort
import Derived.Test.YtaneolfnnkppbaaGreatDoorJMerge
set_option linter.all false
namespace Go.Proofs.YtaneolfnnkppbaaGreatDoor
open Go Go.Shelf Go.RowKit Go.Lib Go.Sort
section
variable {α : Type} [Inhabited α]
set_option maxHeartbeats 4000000 in
set_option maxRecDepth 1000000 in
theorem swapExc (k : Nat) (zE : ∀ w, (Go.sizeOf 62).run Tryz.prog w = .ok k w) (enc : α → List Value) (g : Nat) (cb : Array Value) (blk off cap a b n lo hi : Nat) (d0 d : Array α) (w0 w : World)
  (R : RowK enc k w0 blk off d0) (hs : d0.size = d.size) (S : SWK enc k w0 blk off d w) (hab : a + n ≤ b) (hb : b + n ≤ d.size) (hlo : lo ≤ a) (hhi : b + n ≤ hi) (hhd : hi ≤ d.size) (hsz : d.size < 4611686018427387904) :
  Calls Tryz.prog 190 #[.slice (some ⟨blk, off, none⟩) d.size cap, .int .i64 a, .int .i64 b, .int .i64 n, .func (.func g) #[] cb] w fun e w' => e = .returned (.tuple #[]) ∧ ∃ d', SWK enc k w0 blk off d' w' ∧ SwR d d' a b n ∧ PermIn lo hi d d' := by
 have aE := Tryz.isAgg62
 have mixed : Tryz.prog.follows .mixedOrders = true := by kernel_rfl
 have S0 : Aside (SWK enc k w0 blk off d w) := S
 have P0 : Aside (PermIn lo hi d d) := permIn_refl d lo hi
 have W0 : Aside (SwR d d a b 0) := SwR.zero d a b
 clear S
 go_enter Tryz.func190, Tryz.ntmps190
 go_wp2
 go_loopg [10] n (fun kx s10 wr => ∃ (i : Nat) (dk : Array α), s10 = .int .i64 i ∧ i ≤ n ∧ n - i ≤ kx ∧ dk.size = d.size ∧ Aside (SWK enc k w0 blk off dk wr) ∧ Aside (SwR d dk a b i) ∧ Aside (PermIn lo hi d dk))
 case atStart => exact ⟨0, d, by go_num, by omega, by omega, rfl, S0, W0, P0⟩
 case round =>
  clear S0 P0 W0
  obtain ⟨i, dk, rfl, hin, hkx, hds, S1, W1, P1⟩ := hrel
  by_cases hlt : i < n
  ·have hlz : (i : Int) < (n : Int) := by omega
   go_wp2_with fail
   have ra : IntKind.i64.wrap ((a : Int) + (i : Int)) = (a : Int) + (i : Int) := by rw [IntKind.wrap_i64]; omega
   have rb : IntKind.i64.wrap ((b : Int) + (i : Int)) = (b : Int) + (i : Int) := by rw [IntKind.wrap_i64]; omega
   have ea : ((a : Int) + (i : Int)).toNat = a + i := by omega
   have eb : ((b : Int) + (i : Int)).toNat = b + i := by omega
   have pa : (0 : Int) ≤ (a : Int) + (i : Int) := by omega
   have pb : (0 : Int) ≤ (b : Int) + (i : Int) := by omega
   have ba : (a : Int) + (i : Int) < (d.size : Int) := by omega
   have bb : (b : Int) + (i : Int) < (d.size : Int) := by omega
   have S2 : Aside (SWK enc k w0 blk off (swp dk (a + i) (b + i)) ((wr.drew.setCells blk (off + (a + i) * k) (enc dk[b + i]!)).setCells blk (off + (b + i) * k) (enc dk[a + i]!))) := S1.out.swapped R (a + i) (b + i) (by omega) (by omega)
   have l44a := S1.out.ld1 R (by omega) Tryz.prog (a + i) (by omega)
   have l44b := S1.out.ld1 R (by omega) Tryz.prog (b + i) (by omega)
   have s44a := S1.out.st1 R (by omega) Tryz.prog (a + i) (by omega) dk[b + i]!
   have s44b := S1.out.st2 R (by omega) Tryz.prog (a + i) (b + i) (by omega) (by omega) dk[b + i]! dk[a + i]!
   have n44a : (enc dk[a + i]!).length = k := R.hk _
   have n44b : (enc dk[b + i]!).length = k := R.hk _
   generalize enc dk[a + i]! = cI44 at S2 l44a s44b n44a
   generalize enc dk[b + i]! = cJ44 at S2 l44b s44a s44b n44b
   clear S1
   go_wp2_with fail
   go_big_region_o
   clear l44a l44b s44a s44b
   generalize (wr.drew.setCells blk (off + (a + i) * k) cJ44).setCells blk (off + (b + i) * k) cI44 = w2 at S2 ⊢
   go_wp2
   go_roundg (n - (i + 1))
   case measure => omega
   case rel =>
    refine ⟨i + 1, swp dk (a + i) (b + i), by go_num, by omega, Nat.le_refl _, by rw [size_swp]; exact hds, S2, ?_, ?_⟩
    ·exact W1.out.step (by omega) (by omega)
    ·exact permIn_trans _ _ _ _ _ P1.out (swp_permIn dk lo hi (a + i) (b + i) (by omega) (by omega) (by omega) (by omega) (by omega))
  ·obtain rfl : i = n := by omega
   go_wp2
   go_end0
   exact ⟨rfl, dk, S1.out, W1.out, P1.out⟩
set_option maxHeartbeats 4000000 in
set_option maxRecDepth 1000000 in
theorem rotExc (k : Nat) (zE : ∀ w, (Go.sizeOf 62).run Tryz.prog w = .ok k w) (enc : α → List Value) (g : Nat) (cb : Array Value) (blk off cap a m b lo hi : Nat) (d0 d : Array α) (w0 w : World)
  (R : RowK enc k w0 blk off d0) (hs : d0.size = d.size) (S : SWK enc k w0 blk off d w) (ham : a < m) (hmb : m < b) (hb : b ≤ d.size) (hlo : lo ≤ a) (hhi : b ≤ hi) (hhd : hi ≤ d.size) (hsz : d.size < 4611686018427387904) :
  Calls Tryz.prog 160 #[.slice (some ⟨blk, off, none⟩) d.size cap, .int .i64 a, .int .i64 m, .int .i64 b, .func (.func g) #[] cb] w fun e w' => e = .returned (.tuple #[]) ∧ ∃ d', SWK enc k w0 blk off d' w' ∧ RotR d d' a m b ∧ PermIn lo hi d d' := by
 have S0 : Aside (SWK enc k w0 blk off d w) := S
 have P0 : Aside (PermIn lo hi d d) := permIn_refl d lo hi
 have W0 : Aside (∀ d', RotR d d' (m - (m - a)) m (m + (b - m)) → RotR d d' a m b) := fun d' h => by
  rw [show m - (m - a) = a by omega, show m + (b - m) = b by omega] at h; exact h
 clear S
 go_enter Tryz.func160, Tryz.ntmps160
 go_wp2
 go_loopg [10, 11] (b - a) (fun kx s10 s11 wr => ∃ (i j : Nat) (dk : Array α), s10 = .int .i64 i ∧ s11 = .int .i64 j ∧ 0 < i ∧ 0 < j ∧ i ≤ m - a ∧ j ≤ b - m ∧ i + j ≤ kx ∧ dk.size = d.size ∧ Aside (SWK enc k w0 blk off dk wr) ∧ Aside (∀ d', RotR dk d' (m - i) m (m + j) → RotR d d' a m b) ∧ Aside (PermIn lo hi d dk))
 case atStart => exact ⟨m - a, b - m, d, by go_num, by go_num, by omega, by omega, by omega, by omega, by omega, rfl, S0, W0, P0⟩
 case round =>
  clear S0 P0 W0
  obtain ⟨i, j, dk, rfl, rfl, hi0, hj0, hi1, hj1, hkx, hds, S1, W1, P1⟩ := hrel
  have rm : IntKind.i64.wrap ((m : Int) - (i : Int)) = (m : Int) - (i : Int) := by rw [IntKind.wrap_i64]; omega
  by_cases hne : i = j
  ·subst hne
   have q1 : ((i : Int) != (i : Int)) = false := by simp
   go_wp2_with fail
   rw [show ((m : Int) - (i : Int)) = ((m - i : Nat) : Int) by omega, ← hds]
   refine (swapExc k zE enc g cb blk off cap (m - i) m i lo hi d0 dk w0 wr R (by omega) S1.out (by omega) (by omega) (by omega) (by omega) (by omega) (by omega)).mono ?_
   rintro e w2 ⟨rfl, d', S2, hW, hP⟩
   have HF : Aside (RotR d d' a m b) := W1.out d' (RotR.last hW (by omega))
   have HP : Aside (PermIn lo hi d d') := permIn_trans _ _ _ _ _ P1.out hP
   clear hW hP S1 W1 P1
   go_wp2
   go_end0
   exact ⟨rfl, d', S2, HF.out, HP.out⟩
  ·have q1 : ((i : Int) != (j : Int)) = true := by simp; omega
   by_cases hgt : j < i
   ·have hgz : (j : Int) < (i : Int) := by omega
    go_wp2_with fail
    rw [show ((m : Int) - (i : Int)) = ((m - i : Nat) : Int) by omega, ← hds]
    refine (swapExc k zE enc g cb blk off cap (m - i) m j lo hi d0 dk w0 wr R (by omega) S1.out (by omega) (by omega) (by omega) (by omega) (by omega) (by omega)).mono ?_
    rintro e w2 ⟨rfl, dn, S2, hW, hP⟩
    have HS : dn.size = dk.size := hW.1
    have HF : Aside (∀ d', RotR dn d' (m - (i - j)) m (m + j) → RotR d d' a m b) := fun d' h => W1.out d' (RotR.left hW (by omega) hgt h)
    have HP : Aside (PermIn lo hi d dn) := permIn_trans _ _ _ _ _ P1.out hP
    have S3 : Aside (SWK enc k w0 blk off dn w2) := S2
    clear hW hP S1 W1 P1 S2 q1
    go_wp2
    go_roundg (i - j + j)
    case measure => omega
    case rel =>
     exact ⟨i - j, j, dn, by first | go_num | (congr 1; omega), rfl, by omega, by omega, by omega, by omega, Nat.le_refl _, by omega, S3, HF, HP⟩
   ·have hgz : ¬ (j : Int) < (i : Int) := by omega
    have rj : IntKind.i64.wrap ((m : Int) + (j : Int)) = (m : Int) + (j : Int) := by rw [IntKind.wrap_i64]; omega
    have rj2 : IntKind.i64.wrap ((m : Int) + (j : Int) - (i : Int)) = (m : Int) + (j : Int) - (i : Int) := by rw [IntKind.wrap_i64]; omega
    go_wp2_with fail
    rw [show ((m : Int) - (i : Int)) = ((m - i : Nat) : Int) by omega, show ((m : Int) + (j : Int) - (i : Int)) = ((m + j - i : Nat) : Int) by omega, ← hds]
    refine (swapExc k zE enc g cb blk off cap (m - i) (m + j - i) i lo hi d0 dk w0 wr R (by omega) S1.out (by omega) (by omega) (by omega) (by omega) (by omega) (by omega)).mono ?_
    rintro e w2 ⟨rfl, dn, S2, hW, hP⟩
    have HS : dn.size = dk.size := hW.1
    have HF : Aside (∀ d', RotR dn d' (m - i) m (m + (j - i)) → RotR d d' a m b) := fun d' h => W1.out d' (RotR.right hW (by omega) (by omega) h)
    have HP : Aside (PermIn lo hi d dn) := permIn_trans _ _ _ _ _ P1.out hP
    have S3 : Aside (SWK enc k w0 blk off dn w2) := S2
    clear hW hP S1 W1 P1 S2 q1
    go_wp2
    go_roundg (i + (j - i))
    case measure => omega
    case rel =>
     exact ⟨i, j - i, dn, rfl, by first | go_num | (congr 1; omega), by omega, by omega, by omega, by omega, Nat.le_refl _, by omega, S3, HF, HP⟩
end
end Go.Proofs.YtaneolfnnkppbaaGreatDoor
namespace Go.Proofs.YtaneolfnnkppbaaGreatDoor
open Go Go.Shelf Go.RowKit Go.Lib Go.Sort
section
variable {α : Type} [Inhabited α]
set_option maxHeartbeats 8000000 in
set_option maxRecDepth 1000000 in
theorem sym1Exc (k : Nat) (zE : ∀ w, (Go.sizeOf 62).run Tryz.prog w = .ok k w) (enc : α → List Value) (g : Nat) (cb : Array Value) (eg : ∀ args w, (callFunc g args).run Tryz.prog w = .ok (.enter g args) w) (cf : α → α → Int) (T : α → α → Prop) (htr : ∀ x y z, T x y → T y z → T x z) (hirr : ∀ x, ¬ T x x) (blk off cap : Nat) (d0 : Array α) (w0 : World) (hC : CmpLays Tryz.prog g cb enc k cf blk off d0.size w0) (hsz : d0.size < 4611686018427387904)
  (R : RowK enc k w0 blk off d0) (a m b : Nat) (d : Array α) (w : World) (hs : d0.size = d.size) (S : SWK enc k w0 blk off d w) (ham : m = a + 1) (hmb : m < b) (hb : b ≤ d.size) (h1 : Inc T d a m) (h2 : Inc T d m b) (hX : Cross T (ltOf cf) d a m b) :
  Calls Tryz.prog 134 #[.slice (some ⟨blk, off, none⟩) d.size cap, .int .i64 a, .int .i64 m, .int .i64 b, .func (.func g) #[] cb] w fun e w' => e = .returned (.tuple #[]) ∧ ∃ d', SWK enc k w0 blk off d' w' ∧ Inc T d' a b ∧ PermIn a b d d' := by
 have aE := Tryz.isAgg62
 have mixed : Tryz.prog.follows .mixedOrders = true := by kernel_rfl
 have q1 : ((m : Int) - (a : Int) == 1) = true := by rw [beq_iff_eq]; omega
 have S0 : Aside (SWK enc k w0 blk off d w) := S
 have C0 : Aside _ := hC
 have TT : Aside ((∀ x y z, T x y → T y z → T x z) ∧ ∀ x, ¬ T x x) := ⟨htr, hirr⟩
 have II : Aside (Inc T d a m ∧ Inc T d m b ∧ Cross T (ltOf cf) d a m b) := ⟨h1, h2, hX⟩
 have HM : Aside (m = a + 1) := ham
 have ham' : a < m := by omega
 have hz1 : (a : Int) < (d.size : Int) := by omega
 have hz2 : (0 : Int) ≤ (a : Int) := by omega
 clear S hC htr hirr h1 h2 hX ham
 go_enter Tryz.func134, Tryz.ntmps134
 go_wp2
 go_loopg [10, 11] (b - m) (fun kx s10 s11 wr => ∃ i j : Nat, s10 = .int .i64 i ∧ s11 = .int .i64 j ∧ m ≤ i ∧ i ≤ j ∧ j ≤ b ∧ j - i ≤ kx ∧ Aside (SWK enc k w0 blk off d wr) ∧ Aside (∀ c, m ≤ c → c < i → ltOf cf d[c]! d[a]! = true) ∧ Aside (∀ c, j ≤ c → c < b → ltOf cf d[c]! d[a]! = false))
 case atStart => exact ⟨m, b, rfl, rfl, by omega, by omega, by omega, by omega, S0, fun c x y => by omega, fun c x y => by omega⟩
 case round =>
  clear S0
  obtain ⟨i, j, rfl, rfl, hmi, hij, hjb, hkx, S1, F1, F2⟩ := hrel
  by_cases hlt : i < j
  ·have hlz : (i : Int) < (j : Int) := by omega
   obtain ⟨h, hh⟩ : ∃ h, h = (i + j) / 2 := ⟨_, rfl⟩
   have eh : ((i : Int) + (j : Int)) / 2 = (h : Int) := by omega
   have hhd : h < d.size := by omega
   have hz3 : (h : Int) < (d.size : Int) := by omega
   have hz4 : (0 : Int) ≤ (h : Int) := by omega
   have hh1 : i ≤ h := by omega
   have hh2 : h < j := by omega
   have rh : IntKind.i64.wrap (h : Int) = (h : Int) := by rw [IntKind.wrap_i64]; omega
   clear hh
   have lh := fun n os => S1.out.ld R hs.symm Tryz.prog h (by omega) n os
   have la := fun n os => S1.out.ld R hs.symm Tryz.prog a (by omega) n os
   have hcg := fun n os => S1.out.cmp C0.out hs.symm d[h]! d[a]! n os
   have GG : Aside (∀ n os, SWK enc k w0 blk off d (grow (wr.drewN n) os)) := fun n os => S1.out.grown n os
   obtain ⟨xh, hxh⟩ : ∃ x, x = d[h]! := ⟨_, rfl⟩
   obtain ⟨xa, hxa⟩ : ∃ x, x = d[a]! := ⟨_, rfl⟩
   rw [← hxh] at lh hcg
   rw [← hxa] at la hcg
   have HXX : Aside (xh = d[h]! ∧ xa = d[a]!) := ⟨hxh, hxa⟩
   clear hxh hxa S1
   by_cases hlv : cf xh xa < 0
   ·go_wp2_with fail
    go_quiet_grown (first | (go_at_fn g; refine Calls.grown_of (hcg _ _)))
    have S2 : Aside (SWK enc k w0 blk off d (grow (wr.drewN nq) osq)) := GG.out nq osq
    clear lh la hcg GG
    generalize grow (wr.drewN nq) osq = w2 at S2 ⊢
    have NF : Aside (∀ c, m ≤ c → c < h + 1 → ltOf cf d[c]! d[a]! = true) := fun c x y =>
     cross_t TT.out.1 TT.out.2 II.out.1 II.out.2.1 II.out.2.2 (i := a) (j := h) ⟨by omega, by omega, by omega⟩ ⟨x, by omega, by omega⟩ (by rw [← HXX.out.1, ← HXX.out.2]; exact decide_eq_true hlv)
    go_wp2
    go_roundg (j - (h + 1))
    case measure => omega
    case rel => exact ⟨h + 1, j, by go_num, rfl, by omega, by omega, by omega, Nat.le_refl _, S2, NF, F2⟩
   ·go_wp2_with fail
    go_quiet_grown (first | (go_at_fn g; refine Calls.grown_of (hcg _ _)))
    have S2 : Aside (SWK enc k w0 blk off d (grow (wr.drewN nq) osq)) := GG.out nq osq
    clear lh la hcg GG
    generalize grow (wr.drewN nq) osq = w2 at S2 ⊢
    have NF : Aside (∀ c, h ≤ c → c < b → ltOf cf d[c]! d[a]! = false) := fun c x y =>
     cross_f TT.out.1 TT.out.2 II.out.1 II.out.2.1 II.out.2.2 (i := a) (j := h) ⟨by omega, by omega, by omega⟩ ⟨by omega, x, y⟩ (by rw [← HXX.out.1, ← HXX.out.2]; exact decide_eq_false (by omega))
    go_wp2
    go_roundg (h - i)
    case measure => omega
    case rel => exact ⟨i, h, rfl, rfl, by omega, by omega, by omega, Nat.le_refl _, S2, F1, NF⟩
  ·obtain rfl : i = j := by omega
   go_wp2
   have P0 : Aside (PermIn a b d d) := permIn_refl d a b
   have W0 : Aside (MovU d d a a) := MovU.zero d a
   have i1 : (1 : Int) ≤ (i : Int) := by omega
   go_loopg [13] (i - 1 - a) (fun kx s13 wr => ∃ (t : Nat) (dk : Array α), s13 = .int .i64 t ∧ a ≤ t ∧ t ≤ i - 1 ∧ i - 1 - t ≤ kx ∧ dk.size = d.size ∧ Aside (SWK enc k w0 blk off dk wr) ∧ Aside (MovU d dk a t) ∧ Aside (PermIn a b d dk))
   case atStart => exact ⟨a, d, rfl, by omega, by omega, by omega, rfl, S1, W0, P0⟩
   case round =>
    clear S1 W0 P0
    obtain ⟨t, dk, rfl, hat, hti, hkt, hds, S1, W1, P1⟩ := hrel
    by_cases hlt2 : t < i - 1
    ·have hlz : (t : Int) < (i : Int) - 1 := by omega
     go_wp2_with fail
     have ra : IntKind.i64.wrap ((t : Int) + 1) = (t : Int) + 1 := by rw [IntKind.wrap_i64]; omega
     have ea : ((t : Int) + 1).toNat = t + 1 := by omega
     have pa : (0 : Int) ≤ (t : Int) := by omega
     have pb : (0 : Int) ≤ (t : Int) + 1 := by omega
     have ba : (t : Int) < (d.size : Int) := by omega
     have bb : (t : Int) + 1 < (d.size : Int) := by omega
     have S2 : Aside (SWK enc k w0 blk off (swp dk t (t + 1)) ((wr.drew.setCells blk (off + t * k) (enc dk[t + 1]!)).setCells blk (off + (t + 1) * k) (enc dk[t]!))) := S1.out.swapped R t (t + 1) (by omega) (by omega)
     have l44a := S1.out.ld1 R (by omega) Tryz.prog t (by omega)
     have l44b := S1.out.ld1 R (by omega) Tryz.prog (t + 1) (by omega)
     have s44a := S1.out.st1 R (by omega) Tryz.prog t (by omega) dk[t + 1]!
     have s44b := S1.out.st2 R (by omega) Tryz.prog t (t + 1) (by omega) (by omega) dk[t + 1]! dk[t]!
     have n44a : (enc dk[t]!).length = k := R.hk _
     have n44b : (enc dk[t + 1]!).length = k := R.hk _
     generalize enc dk[t]! = cI44 at S2 l44a s44b n44a
     generalize enc dk[t + 1]! = cJ44 at S2 l44b s44a s44b n44b
     clear S1
     go_wp2_with fail
     go_big_region_o
     clear l44a l44b s44a s44b
     generalize (wr.drew.setCells blk (off + t * k) cJ44).setCells blk (off + (t + 1) * k) cI44 = w2 at S2 ⊢
     go_wp2
     go_roundg (i - 1 - (t + 1))
     case measure => omega
     case rel =>
      refine ⟨t + 1, swp dk t (t + 1), by go_num, by omega, by omega, Nat.le_refl _, by rw [size_swp]; exact hds, S2, ?_, ?_⟩
      ·exact W1.out.step (by omega) (by omega)
      ·exact permIn_trans _ _ _ _ _ P1.out (swp_permIn dk a b t (t + 1) (by omega) (by omega) (by omega) (by omega) (by omega))
    ·obtain rfl : t = i - 1 := by omega
     have HI : Aside (Inc T dk a b) := by
      have hm := HM.out
      refine MovU.inc (i := i) W1.out (by rw [← hm]; exact II.out.2.1) (by rw [← hm]; exact II.out.2.2) (by omega) (by rw [← hm]; exact F1.out) F2.out
     have hlz : ¬ ((i - 1 : Nat) : Int) < (i : Int) - 1 := by omega
     go_wp2
     (try simp only [Exit.inBlock, Exit.then])
     refine bodyPost_ret (results_none rfl _ _ _) rfl ?_
     exact ⟨rfl, dk, S1.out, HI.out, P1.out⟩
set_option maxHeartbeats 8000000 in
set_option maxRecDepth 1000000 in
theorem sym2Exc (k : Nat) (zE : ∀ w, (Go.sizeOf 62).run Tryz.prog w = .ok k w) (enc : α → List Value) (g : Nat) (cb : Array Value) (eg : ∀ args w, (callFunc g args).run Tryz.prog w = .ok (.enter g args) w) (cf : α → α → Int) (T : α → α → Prop) (htr : ∀ x y z, T x y → T y z → T x z) (hirr : ∀ x, ¬ T x x) (blk off cap : Nat) (d0 : Array α) (w0 : World) (hC : CmpLays Tryz.prog g cb enc k cf blk off d0.size w0) (hsz : d0.size < 4611686018427387904)
  (R : RowK enc k w0 blk off d0) (a m b : Nat) (d : Array α) (w : World) (hs : d0.size = d.size) (S : SWK enc k w0 blk off d w) (ham : a + 1 < m) (hmb : b = m + 1) (hb : b ≤ d.size) (h1 : Inc T d a m) (h2 : Inc T d m b) (hX : Cross T (ltOf cf) d a m b) :
  Calls Tryz.prog 134 #[.slice (some ⟨blk, off, none⟩) d.size cap, .int .i64 a, .int .i64 m, .int .i64 b, .func (.func g) #[] cb] w fun e w' => e = .returned (.tuple #[]) ∧ ∃ d', SWK enc k w0 blk off d' w' ∧ Inc T d' a b ∧ PermIn a b d d' := by
 have aE := Tryz.isAgg62
 have mixed : Tryz.prog.follows .mixedOrders = true := by kernel_rfl
 have q0 : ((m : Int) - (a : Int) == 1) = false := by rw [beq_eq_false_iff_ne]; omega
 have q1 : ((b : Int) - (m : Int) == 1) = true := by rw [beq_iff_eq]; omega
 have S0 : Aside (SWK enc k w0 blk off d w) := S
 have C0 : Aside _ := hC
 have TT : Aside ((∀ x y z, T x y → T y z → T x z) ∧ ∀ x, ¬ T x x) := ⟨htr, hirr⟩
 have II : Aside (Inc T d a m ∧ Inc T d m b ∧ Cross T (ltOf cf) d a m b) := ⟨h1, h2, hX⟩
 have HM : Aside (b = m + 1) := hmb
 have hz1 : (m : Int) < (d.size : Int) := by omega
 have hz2 : (0 : Int) ≤ (m : Int) := by omega
 have hmb' : m < b := by omega
 clear S hC htr hirr h1 h2 hX hmb
 go_enter Tryz.func134, Tryz.ntmps134
 go_wp2
 go_loopg [14, 15] (m - a) (fun kx s10 s11 wr => ∃ i j : Nat, s10 = .int .i64 i ∧ s11 = .int .i64 j ∧ a ≤ i ∧ i ≤ j ∧ j ≤ m ∧ j - i ≤ kx ∧ Aside (SWK enc k w0 blk off d wr) ∧ Aside (∀ c, a ≤ c → c < i → ltOf cf d[m]! d[c]! = false) ∧ Aside (∀ c, j ≤ c → c < m → ltOf cf d[m]! d[c]! = true))
 case atStart => exact ⟨a, m, rfl, rfl, by omega, by omega, by omega, by omega, S0, fun c x y => by omega, fun c x y => by omega⟩
 case round =>
  clear S0
  obtain ⟨i, j, rfl, rfl, hmi, hij, hjb, hkx, S1, F1, F2⟩ := hrel
  by_cases hlt : i < j
  ·have hlz : (i : Int) < (j : Int) := by omega
   obtain ⟨h, hh⟩ : ∃ h, h = (i + j) / 2 := ⟨_, rfl⟩
   have eh : ((i : Int) + (j : Int)) / 2 = (h : Int) := by omega
   have hhd : h < d.size := by omega
   have hz3 : (h : Int) < (d.size : Int) := by omega
   have hz4 : (0 : Int) ≤ (h : Int) := by omega
   have hh1 : i ≤ h := by omega
   have hh2 : h < j := by omega
   have rh : IntKind.i64.wrap (h : Int) = (h : Int) := by rw [IntKind.wrap_i64]; omega
   clear hh
   have lh := fun n os => S1.out.ld R hs.symm Tryz.prog h (by omega) n os
   have la := fun n os => S1.out.ld R hs.symm Tryz.prog m (by omega) n os
   have hcg := fun n os => S1.out.cmp C0.out hs.symm d[m]! d[h]! n os
   have GG : Aside (∀ n os, SWK enc k w0 blk off d (grow (wr.drewN n) os)) := fun n os => S1.out.grown n os
   obtain ⟨xh, hxh⟩ : ∃ x, x = d[h]! := ⟨_, rfl⟩
   obtain ⟨xa, hxa⟩ : ∃ x, x = d[m]! := ⟨_, rfl⟩
   rw [← hxh] at lh hcg
   rw [← hxa] at la hcg
   have HXX : Aside (xh = d[h]! ∧ xa = d[m]!) := ⟨hxh, hxa⟩
   clear hxh hxa S1
   by_cases hlv : cf xa xh < 0
   ·have hlb : decide (cf xa xh < 0) = true := decide_eq_true hlv
    go_wp2_with fail
    go_quiet_grown (first | (go_at_fn g; refine Calls.grown_of (hcg _ _)))
    have S2 : Aside (SWK enc k w0 blk off d (grow (wr.drewN nq) osq)) := GG.out nq osq
    clear lh la hcg GG
    generalize grow (wr.drewN nq) osq = w2 at S2 ⊢
    have NF : Aside (∀ c, h ≤ c → c < m → ltOf cf d[m]! d[c]! = true) := fun c x y =>
     cross_t TT.out.1 TT.out.2 II.out.1 II.out.2.1 II.out.2.2 (i := h) (j := m) ⟨by omega, by omega, by omega⟩ ⟨by omega, by omega, by omega⟩ (by rw [← HXX.out.1, ← HXX.out.2]; exact decide_eq_true hlv)
    go_wp2
    go_roundg (h - i)
    case measure => omega
    case rel => exact ⟨i, h, rfl, rfl, by omega, by omega, by omega, Nat.le_refl _, S2, F1, NF⟩
   ·have hlb : decide (cf xa xh < 0) = false := decide_eq_false hlv
    go_wp2_with fail
    go_quiet_grown (first | (go_at_fn g; refine Calls.grown_of (hcg _ _)))
    have S2 : Aside (SWK enc k w0 blk off d (grow (wr.drewN nq) osq)) := GG.out nq osq
    clear lh la hcg GG
    generalize grow (wr.drewN nq) osq = w2 at S2 ⊢
    have NF : Aside (∀ c, a ≤ c → c < h + 1 → ltOf cf d[m]! d[c]! = false) := fun c x y =>
     cross_f TT.out.1 TT.out.2 II.out.1 II.out.2.1 II.out.2.2 (i := h) (j := m) ⟨by omega, by omega, by omega⟩ ⟨by omega, by omega, by omega⟩ (by rw [← HXX.out.1, ← HXX.out.2]; exact decide_eq_false (by omega))
    go_wp2
    go_roundg (j - (h + 1))
    case measure => omega
    case rel => exact ⟨h + 1, j, by go_num, rfl, by omega, by omega, by omega, Nat.le_refl _, S2, NF, F2⟩
  ·obtain rfl : i = j := by omega
   go_wp2
   have P0 : Aside (PermIn a b d d) := permIn_refl d a b
   have W0 : Aside (MovD d d m m) := MovD.zero d m
   go_loopg [17] (m - i) (fun kx s13 wr => ∃ (t : Nat) (dk : Array α), s13 = .int .i64 t ∧ i ≤ t ∧ t ≤ m ∧ t - i ≤ kx ∧ dk.size = d.size ∧ Aside (SWK enc k w0 blk off dk wr) ∧ Aside (MovD d dk m t) ∧ Aside (PermIn a b d dk))
   case atStart => exact ⟨m, d, rfl, by omega, by omega, by omega, rfl, S1, W0, P0⟩
   case round =>
    clear S1 W0 P0
    obtain ⟨t, dk, rfl, hat, hti, hkt, hds, S1, W1, P1⟩ := hrel
    by_cases hlt2 : i < t
    ·obtain ⟨t, rfl⟩ : ∃ p, t = p + 1 := ⟨t - 1, by omega⟩
     have hlz : (i : Int) < (t : Int) + 1 := by omega
     go_wp2_with fail
     have ra : IntKind.i64.wrap (t : Int) = (t : Int) := by rw [IntKind.wrap_i64]; omega
     have ea : ((t : Int) + 1).toNat = t + 1 := by omega
     have pa : (0 : Int) ≤ (t : Int) := by omega
     have pb : (0 : Int) ≤ (t : Int) + 1 := by omega
     have ba : (t : Int) < (d.size : Int) := by omega
     have bb : (t : Int) + 1 < (d.size : Int) := by omega
     have S2 : Aside (SWK enc k w0 blk off (swp dk (t + 1) t) ((wr.drew.setCells blk (off + (t + 1) * k) (enc dk[t]!)).setCells blk (off + t * k) (enc dk[t + 1]!))) := S1.out.swapped R (t + 1) t (by omega) (by omega)
     have l44a := S1.out.ld1 R (by omega) Tryz.prog (t + 1) (by omega)
     have l44b := S1.out.ld1 R (by omega) Tryz.prog t (by omega)
     have s44a := S1.out.st1 R (by omega) Tryz.prog (t + 1) (by omega) dk[t]!
     have s44b := S1.out.st2 R (by omega) Tryz.prog (t + 1) t (by omega) (by omega) dk[t]! dk[t + 1]!
     have n44a : (enc dk[t + 1]!).length = k := R.hk _
     have n44b : (enc dk[t]!).length = k := R.hk _
     generalize enc dk[t + 1]! = cI44 at S2 l44a s44b n44a
     generalize enc dk[t]! = cJ44 at S2 l44b s44a s44b n44b
     clear S1
     go_wp2_with fail
     go_big_region_o
     clear l44a l44b s44a s44b
     generalize (wr.drew.setCells blk (off + (t + 1) * k) cJ44).setCells blk (off + t * k) cI44 = w2 at S2 ⊢
     go_wp2
     go_roundg (t - i)
     case measure => omega
     case rel =>
      refine ⟨t, swp dk (t + 1) t, by first | rfl | go_num | (congr 1; omega), by omega, by omega, Nat.le_refl _, by rw [size_swp]; exact hds, S2, ?_, ?_⟩
      ·exact W1.out.step (by omega) (by omega)
      ·exact permIn_trans _ _ _ _ _ P1.out (swp_permIn dk a b (t + 1) t (by omega) (by omega) (by omega) (by omega) (by omega))
    ·obtain rfl : i = t := by omega
     have HI : Aside (Inc T dk a b) := by
      have hm := HM.out
      subst hm
      exact MovD.inc W1.out II.out.1 II.out.2.2 ⟨by omega, by omega⟩ F1.out F2.out
     go_wp2
     (try simp only [Exit.inBlock, Exit.then])
     refine bodyPost_ret (results_none rfl _ _ _) rfl ?_
     exact ⟨rfl, dk, S1.out, HI.out, P1.out⟩
end
end Go.Proofs.YtaneolfnnkppbaaGreatDoor
namespace Go.Proofs.YtaneolfnnkppbaaGreatDoor
open Go Go.Shelf Go.RowKit Go.Lib Go.Sort
section
variable {α : Type} [Inhabited α]
set_option maxHeartbeats 8000000 in
set_option maxRecDepth 1000000 in
theorem symStepExc (k : Nat) (zE : ∀ w, (Go.sizeOf 62).run Tryz.prog w = .ok k w) (enc : α → List Value) (g : Nat) (cb : Array Value) (eg : ∀ args w, (callFunc g args).run Tryz.prog w = .ok (.enter g args) w) (cf : α → α → Int) (T : α → α → Prop) (htr : ∀ x y z, T x y → T y z → T x z) (hirr : ∀ x, ¬ T x x) (blk off cap : Nat) (d0 : Array α) (w0 : World) (hC : CmpLays Tryz.prog g cb enc k cf blk off d0.size w0) (hsz : d0.size < 4611686018427387904)
  (R : RowK enc k w0 blk off d0) (N : Nat) (IH : ∀ (a m b : Nat) (d : Array α) (w : World), b - a ≤ N → d0.size = d.size → SWK enc k w0 blk off d w → a < m → m < b → b ≤ d.size → Inc T d a m → Inc T d m b → Cross T (ltOf cf) d a m b →
   Calls Tryz.prog 134 #[.slice (some ⟨blk, off, none⟩) d.size cap, .int .i64 a, .int .i64 m, .int .i64 b, .func (.func g) #[] cb] w fun e w' => e = .returned (.tuple #[]) ∧ ∃ d', SWK enc k w0 blk off d' w' ∧ Inc T d' a b ∧ PermIn a b d d')
  (a m b : Nat) (d : Array α) (w : World) (hN : b - a ≤ N + 1) (hs : d0.size = d.size) (S : SWK enc k w0 blk off d w) (ham : a < m) (hmb : m < b) (hb : b ≤ d.size) (h1 : Inc T d a m) (h2 : Inc T d m b) (hX : Cross T (ltOf cf) d a m b) (e1 : ¬ m = a + 1) (e2 : ¬ b = m + 1) :
  Calls Tryz.prog 134 #[.slice (some ⟨blk, off, none⟩) d.size cap, .int .i64 a, .int .i64 m, .int .i64 b, .func (.func g) #[] cb] w fun e w' => e = .returned (.tuple #[]) ∧ ∃ d', SWK enc k w0 blk off d' w' ∧ Inc T d' a b ∧ PermIn a b d d' := by
  have aE := Tryz.isAgg62
  have mixed : Tryz.prog.follows .mixedOrders = true := by kernel_rfl
  have q0 : ((m : Int) - (a : Int) == 1) = false := by rw [beq_eq_false_iff_ne]; omega
  have q1 : ((b : Int) - (m : Int) == 1) = false := by rw [beq_eq_false_iff_ne]; omega
  have S0 : Aside (SWK enc k w0 blk off d w) := S
  have C0 : Aside _ := hC
  have TT : Aside ((∀ x y z, T x y → T y z → T x z) ∧ ∀ x, ¬ T x x) := ⟨htr, hirr⟩
  have II : Aside (Inc T d a m ∧ Inc T d m b ∧ Cross T (ltOf cf) d a m b) := ⟨h1, h2, hX⟩
  have IH0 : Aside _ := IH
  obtain ⟨mid, hmid⟩ : ∃ mid, mid = (a + b) / 2 := ⟨_, rfl⟩
  have em : ((a : Int) + (b : Int)) / 2 = (mid : Int) := by omega
  have m1 : a < mid := by omega
  have m2 : mid < b := by omega
  have m3 : a + 2 ≤ m := by omega
  have m4 : m + 2 ≤ b := by omega
  have HMID : Aside (mid = (a + b) / 2) := hmid
  obtain ⟨lo, hlo⟩ : ∃ lo, lo = if mid < m then mid + m - b else a := ⟨_, rfl⟩
  obtain ⟨hi, hhi⟩ : ∃ hi, hi = if mid < m then mid else m := ⟨_, rfl⟩
  have l1 : a ≤ lo := by subst hlo; split <;> omega
  have l2 : lo ≤ hi := by subst hlo hhi; split <;> omega
  have l3 : hi ≤ m := by subst hhi; split <;> omega
  have l4 : hi ≤ mid := by subst hhi; split <;> omega
  have l5 : mid + m ≤ lo + b := by subst hlo; split <;> omega
  have HLH : Aside (lo = (if mid < m then mid + m - b else a) ∧ hi = (if mid < m then mid else m)) := ⟨hlo, hhi⟩
  clear S hC htr hirr h1 h2 hX IH hmid hlo hhi e1 e2
  by_cases hq : mid < m
  ·skip
   go_enter Tryz.func134, Tryz.ntmps134
   go_wp2_with fail
   go_loopg [20, 21] (hi - lo) (fun kx s10 s11 wr => ∃ i j : Nat, s10 = .int .i64 i ∧ s11 = .int .i64 j ∧ lo ≤ i ∧ i ≤ j ∧ j ≤ hi ∧ j - i ≤ kx ∧ Aside (SWK enc k w0 blk off d wr) ∧ Aside (∀ c, lo ≤ c → c < i → ltOf cf d[mid + m - 1 - c]! d[c]! = false) ∧ Aside (∀ c, j ≤ c → c < hi → ltOf cf d[mid + m - 1 - c]! d[c]! = true))
   case atStart => exact ⟨lo, hi, by rw [HLH.out.1]; rw [if_pos hq]; first | go_num | (congr 1; omega), by rw [HLH.out.2]; rw [if_pos hq], by omega, by omega, by omega, by omega, S0, fun c x y => by omega, fun c x y => by omega⟩
   case round =>
    clear S0
    obtain ⟨i, j, rfl, rfl, hmi, hij, hjb, hkx, S1, F1, F2⟩ := hrel
    by_cases hlt : i < j
    ·have hlz : (i : Int) < (j : Int) := by omega
     obtain ⟨h, hh⟩ : ∃ h, h = (i + j) / 2 := ⟨_, rfl⟩
     have eh : ((i : Int) + (j : Int)) / 2 = (h : Int) := by omega
     have hh1 : i ≤ h := by omega
     have hh2 : h < j := by omega
     have hhd : h < d.size := by omega
     have hz3 : (h : Int) < (d.size : Int) := by omega
     have hz4 : (0 : Int) ≤ (h : Int) := by omega
     have rh : IntKind.i64.wrap (h : Int) = (h : Int) := by rw [IntKind.wrap_i64]; omega
     obtain ⟨p, hp⟩ : ∃ p, p = mid + m - 1 - h := ⟨_, rfl⟩
     have ep : (mid : Int) + (m : Int) - 1 - (h : Int) = (p : Int) := by omega
     have hp1 : m ≤ p := by omega
     have hp2 : p < b := by omega
     have hz5 : (p : Int) < (d.size : Int) := by omega
     have hz6 : (0 : Int) ≤ (p : Int) := by omega
     have rp : IntKind.i64.wrap (p : Int) = (p : Int) := by rw [IntKind.wrap_i64]; omega
     have HHP : Aside (p = mid + m - 1 - h) := hp
     clear hh hp
     have lh := fun n os => S1.out.ld R hs.symm Tryz.prog h (by omega) n os
     have la := fun n os => S1.out.ld R hs.symm Tryz.prog p (by omega) n os
     have hcg := fun n os => S1.out.cmp C0.out hs.symm d[p]! d[h]! n os
     have GG : Aside (∀ n os, SWK enc k w0 blk off d (grow (wr.drewN n) os)) := fun n os => S1.out.grown n os
     obtain ⟨xh, hxh⟩ : ∃ x, x = d[h]! := ⟨_, rfl⟩
     obtain ⟨xa, hxa⟩ : ∃ x, x = d[p]! := ⟨_, rfl⟩
     rw [← hxh] at lh hcg
     rw [← hxa] at la hcg
     have HXX : Aside (xh = d[h]! ∧ xa = d[p]!) := ⟨hxh, hxa⟩
     clear hxh hxa S1
     by_cases hlv : cf xa xh < 0
     ·have hlb : decide (cf xa xh < 0) = true := decide_eq_true hlv
      go_wp2_with fail
      go_quiet_grown (first | (go_at_fn g; refine Calls.grown_of (hcg _ _)))
      have S2 : Aside (SWK enc k w0 blk off d (grow (wr.drewN nq) osq)) := GG.out nq osq
      clear lh la hcg GG
      generalize grow (wr.drewN nq) osq = w2 at S2 ⊢
      have NF : Aside (∀ c, h ≤ c → c < hi → ltOf cf d[mid + m - 1 - c]! d[c]! = true) := fun c x y =>
       cross_t TT.out.1 TT.out.2 II.out.1 II.out.2.1 II.out.2.2 (i := h) (j := p) ⟨by omega, by omega, by omega⟩ (by have := HHP.out; exact ⟨by omega, by omega, by omega⟩) (by rw [← HXX.out.1, ← HXX.out.2]; exact hlb)
      go_wp2
      go_roundg (h - i)
      case measure => omega
      case rel => exact ⟨i, h, rfl, rfl, by omega, by omega, by omega, Nat.le_refl _, S2, F1, NF⟩
     ·have hlb : decide (cf xa xh < 0) = false := decide_eq_false hlv
      go_wp2_with fail
      go_quiet_grown (first | (go_at_fn g; refine Calls.grown_of (hcg _ _)))
      have S2 : Aside (SWK enc k w0 blk off d (grow (wr.drewN nq) osq)) := GG.out nq osq
      clear lh la hcg GG
      generalize grow (wr.drewN nq) osq = w2 at S2 ⊢
      have NF : Aside (∀ c, lo ≤ c → c < h + 1 → ltOf cf d[mid + m - 1 - c]! d[c]! = false) := fun c x y =>
       cross_f TT.out.1 TT.out.2 II.out.1 II.out.2.1 II.out.2.2 (i := h) (j := p) ⟨by omega, by omega, by omega⟩ (by have := HHP.out; exact ⟨by omega, by omega, by omega⟩) (by rw [← HXX.out.1, ← HXX.out.2]; exact hlb)
      go_wp2
      go_roundg (j - (h + 1))
      case measure => omega
      case rel => exact ⟨h + 1, j, by go_num, rfl, by omega, by omega, by omega, Nat.le_refl _, S2, NF, F2⟩
    ·obtain rfl : i = j := by omega
     have HCUT : Aside (Cut (ltOf cf) d (mid + m - 1) lo hi i) := ⟨by omega, by omega, F1.out, F2.out⟩
     obtain ⟨p, hp⟩ : ∃ p, p = mid + m - i := ⟨_, rfl⟩
     have ep : (mid : Int) + (m : Int) - (i : Int) = (p : Int) := by omega
     have rp : IntKind.i64.wrap (p : Int) = (p : Int) := by rw [IntKind.wrap_i64]; omega
     have HPI : Aside (p = mid + m - i) := hp
     have p1 : m ≤ p := by omega
     have p2 : p ≤ b := by omega
     have p3 : p ≤ d.size := by omega
     have k1 : p = b → i ≤ lo := by omega
     have hi1 : hi = mid := by rw [HLH.out.2, if_pos hq]
     by_cases x1 : i < m <;> by_cases x2 : i < mid <;> by_cases x3 : a < i <;> by_cases x4 : p < b
     ·clear hp
      have y1 : (i : Int) < (m : Int) := by omega
      have y2 : (m : Int) < (p : Int) := by omega
      have y3 : (a : Int) < (i : Int) := by omega
      have y4 : (i : Int) < (mid : Int) := by omega
      have y5 : (mid : Int) < (p : Int) := by omega
      have y6 : (p : Int) < (b : Int) := by omega
      go_wp2_with fail
      refine (rotExc k zE enc g cb blk off cap i m p a b d0 d w0 wr R hs S1.out (by omega) (by omega) (by omega) (by omega) (by omega) (by omega) (by omega)).mono ?_
      rintro e w2 ⟨rfl, d1, S2', hR, hP⟩
      have HR : Aside (RotR d d1 i m (mid + m - i)) := by rw [← HPI.out]; exact hR
      have HP1 : Aside (PermIn a b d d1) := hP
      have hz1 : d1.size = d.size := hR.1
      have S2 : Aside (SWK enc k w0 blk off d1 w2) := S2'
      clear hR hP S1 S2'
      have HM : Aside ((Inc T d1 a i ∧ Inc T d1 i mid ∧ Cross T (ltOf cf) d1 a i mid) ∧ (Inc T d1 mid p ∧ Inc T d1 p b ∧ Cross T (ltOf cf) d1 mid p b) ∧ (∀ i j, a ≤ i → i < mid → mid ≤ j → j < b → T d1[i]! d1[j]!)) := by
       have M := merge_halves TT.out.1 ham hmb II.out.1 II.out.2.1 II.out.2.2 mid HMID.out HLH.out.1 HLH.out.2 HCUT.out HR.out
       rw [← HPI.out] at M
       exact ⟨M.1, M.2.1, M.2.2.1⟩
      go_wp2_with fail
      rw [← hz1]
      refine (IH0.out a i mid d1 w2 (by omega) (by omega) S2.out (by omega) (by omega) (by omega) HM.out.1.1 HM.out.1.2.1 HM.out.1.2.2).mono ?_
      rintro e w3 ⟨rfl, d2, S3', i2, p2⟩
      have I2 : Aside (Inc T d2 a mid) := i2
      have P2 : Aside (PermIn a mid d1 d2) := p2
      have hz2 : d2.size = d.size := by rw [p2.1]; exact hz1
      have S3 : Aside (SWK enc k w0 blk off d2 w3) := S3'
      clear i2 p2 S3' S2
      go_wp2_with fail
      rw [← hz2]
      have KP : Aside (∀ x, mid ≤ x → d2[x]! = d1[x]!) := fun x h => P2.out.2.1 x (Or.inr h)
      refine (IH0.out mid p b d2 w3 (by omega) (by omega) S3.out (by omega) (by omega) (by omega) (HM.out.2.1.1.same fun x h _ => KP.out x h) (HM.out.2.1.2.1.same fun x h _ => KP.out x (by omega)) (fun x y h1 h2 h3 h4 => by rw [KP.out x h1, KP.out y (by omega)]; exact HM.out.2.1.2.2 x y h1 h2 h3 h4)).mono ?_
      rintro e w4 ⟨rfl, d3, S4, i3, p3⟩
      have J := merge_join (by omega) (by omega) (by omega) HM.out.2.2 P2.out I2.out p3 i3
      have JJ : Aside (Inc T d3 a b ∧ PermIn a b d1 d3) := J
      have S5 : Aside (SWK enc k w0 blk off d3 w4) := S4
      clear J i3 p3 S4
      go_wp2
      go_end0
      exact ⟨rfl, d3, S5.out, JJ.out.1, permIn_trans _ _ _ _ _ HP1.out JJ.out.2⟩
     ·clear hp
      have y1 : (i : Int) < (m : Int) := by omega
      have y2 : (m : Int) < (p : Int) := by omega
      have y3 : (a : Int) < (i : Int) := by omega
      have y4 : (i : Int) < (mid : Int) := by omega
      have y5 : (mid : Int) < (p : Int) := by omega
      have y6 : ¬ (p : Int) < (b : Int) := by omega
      go_wp2_with fail
      refine (rotExc k zE enc g cb blk off cap i m p a b d0 d w0 wr R hs S1.out (by omega) (by omega) (by omega) (by omega) (by omega) (by omega) (by omega)).mono ?_
      rintro e w2 ⟨rfl, d1, S2', hR, hP⟩
      have HR : Aside (RotR d d1 i m (mid + m - i)) := by rw [← HPI.out]; exact hR
      have HP1 : Aside (PermIn a b d d1) := hP
      have hz1 : d1.size = d.size := hR.1
      have S2 : Aside (SWK enc k w0 blk off d1 w2) := S2'
      clear hR hP S1 S2'
      have HM : Aside ((Inc T d1 a i ∧ Inc T d1 i mid ∧ Cross T (ltOf cf) d1 a i mid) ∧ (Inc T d1 mid p ∧ Inc T d1 p b ∧ Cross T (ltOf cf) d1 mid p b) ∧ (∀ i j, a ≤ i → i < mid → mid ≤ j → j < b → T d1[i]! d1[j]!)) := by
       have M := merge_halves TT.out.1 ham hmb II.out.1 II.out.2.1 II.out.2.2 mid HMID.out HLH.out.1 HLH.out.2 HCUT.out HR.out
       rw [← HPI.out] at M
       exact ⟨M.1, M.2.1, M.2.2.1⟩
      go_wp2_with fail
      rw [← hz1]
      refine (IH0.out a i mid d1 w2 (by omega) (by omega) S2.out (by omega) (by omega) (by omega) HM.out.1.1 HM.out.1.2.1 HM.out.1.2.2).mono ?_
      rintro e w3 ⟨rfl, d2, S3', i2, p2⟩
      have I2 : Aside (Inc T d2 a mid) := i2
      have P2 : Aside (PermIn a mid d1 d2) := p2
      have hz2 : d2.size = d.size := by rw [p2.1]; exact hz1
      have S3 : Aside (SWK enc k w0 blk off d2 w3) := S3'
      clear i2 p2 S3' S2
      have KP : Aside (∀ x, mid ≤ x → d2[x]! = d1[x]!) := fun x h => P2.out.2.1 x (Or.inr h)
      have I3 : Aside (Inc T d2 mid b) := by
       have e : p = b := by omega
       have h := HM.out.2.1.1; rw [e] at h; exact h.same fun x h _ => KP.out x h
      have JJ : Aside (Inc T d2 a b ∧ PermIn a b d1 d2) := merge_join (by omega) (by omega) (by omega) HM.out.2.2 P2.out I2.out (permIn_refl _ mid b) I3.out
      have S5 := S3
      go_wp2
      go_end0
      exact ⟨rfl, d2, S5.out, JJ.out.1, permIn_trans _ _ _ _ _ HP1.out JJ.out.2⟩
     ·exfalso
      have h1 := HLH.out.1
      have h2 := HLH.out.2
      rw [if_pos hq] at h1 h2
      omega
     ·clear hp
      have y1 : (i : Int) < (m : Int) := by omega
      have y2 : (m : Int) < (p : Int) := by omega
      have y3 : ¬ (a : Int) < (i : Int) := by omega
      have y4 : (i : Int) < (mid : Int) := by omega
      have y5 : (mid : Int) < (p : Int) := by omega
      have y6 : ¬ (p : Int) < (b : Int) := by omega
      go_wp2_with fail
      refine (rotExc k zE enc g cb blk off cap i m p a b d0 d w0 wr R hs S1.out (by omega) (by omega) (by omega) (by omega) (by omega) (by omega) (by omega)).mono ?_
      rintro e w2 ⟨rfl, d1, S2', hR, hP⟩
      have HR : Aside (RotR d d1 i m (mid + m - i)) := by rw [← HPI.out]; exact hR
      have HP1 : Aside (PermIn a b d d1) := hP
      have hz1 : d1.size = d.size := hR.1
      have S2 : Aside (SWK enc k w0 blk off d1 w2) := S2'
      clear hR hP S1 S2'
      have HM : Aside ((Inc T d1 a i ∧ Inc T d1 i mid ∧ Cross T (ltOf cf) d1 a i mid) ∧ (Inc T d1 mid p ∧ Inc T d1 p b ∧ Cross T (ltOf cf) d1 mid p b) ∧ (∀ i j, a ≤ i → i < mid → mid ≤ j → j < b → T d1[i]! d1[j]!)) := by
       have M := merge_halves TT.out.1 ham hmb II.out.1 II.out.2.1 II.out.2.2 mid HMID.out HLH.out.1 HLH.out.2 HCUT.out HR.out
       rw [← HPI.out] at M
       exact ⟨M.1, M.2.1, M.2.2.1⟩
      have I2 : Aside (Inc T d1 a mid) := by
       have e : i = a := by omega
       have := HM.out.1.2.1; rw [e] at this; exact this
      have P2 : Aside (PermIn a mid d1 d1) := permIn_refl _ a mid
      have S3 := S2
      have hz2 : d1.size = d.size := hz1
      have KP : Aside (∀ x, mid ≤ x → d1[x]! = d1[x]!) := fun x h => P2.out.2.1 x (Or.inr h)
      have I3 : Aside (Inc T d1 mid b) := by
       have e : p = b := by omega
       have h := HM.out.2.1.1; rw [e] at h; exact h.same fun x h _ => KP.out x h
      have JJ : Aside (Inc T d1 a b ∧ PermIn a b d1 d1) := merge_join (by omega) (by omega) (by omega) HM.out.2.2 P2.out I2.out (permIn_refl _ mid b) I3.out
      have S5 := S3
      go_wp2
      go_end0
      exact ⟨rfl, d1, S5.out, JJ.out.1, permIn_trans _ _ _ _ _ HP1.out JJ.out.2⟩
     ·clear hp
      have y1 : (i : Int) < (m : Int) := by omega
      have y2 : ¬ (m : Int) < (p : Int) := by omega
      have y3 : (a : Int) < (i : Int) := by omega
      have y4 : ¬ (i : Int) < (mid : Int) := by omega
      have y5 : (mid : Int) < (p : Int) := by omega
      have y6 : (p : Int) < (b : Int) := by omega
      go_wp2_with fail
      have HR : Aside (RotR d d i m (mid + m - i)) := by rw [← HPI.out]; exact RotR.none (by omega) (by omega) (by omega)
      have HP1 : Aside (PermIn a b d d) := permIn_refl d a b
      have S2 := S1
      have hz1 : d.size = d.size := rfl
      have HM : Aside ((Inc T d a i ∧ Inc T d i mid ∧ Cross T (ltOf cf) d a i mid) ∧ (Inc T d mid p ∧ Inc T d p b ∧ Cross T (ltOf cf) d mid p b) ∧ (∀ i j, a ≤ i → i < mid → mid ≤ j → j < b → T d[i]! d[j]!)) := by
       have M := merge_halves TT.out.1 ham hmb II.out.1 II.out.2.1 II.out.2.2 mid HMID.out HLH.out.1 HLH.out.2 HCUT.out HR.out
       rw [← HPI.out] at M
       exact ⟨M.1, M.2.1, M.2.2.1⟩
      have I2 : Aside (Inc T d a mid) := by
       have e : i = mid := by omega
       have := HM.out.1.1; rw [e] at this; exact this
      have P2 : Aside (PermIn a mid d d) := permIn_refl _ a mid
      have S3 := S2
      have hz2 : d.size = d.size := rfl
      have KP : Aside (∀ x, mid ≤ x → d[x]! = d[x]!) := fun x h => P2.out.2.1 x (Or.inr h)
      refine (IH0.out mid p b d wr (by omega) (by omega) S3.out (by omega) (by omega) (by omega) (HM.out.2.1.1.same fun x h _ => KP.out x h) (HM.out.2.1.2.1.same fun x h _ => KP.out x (by omega)) (fun x y h1 h2 h3 h4 => by rw [KP.out x h1, KP.out y (by omega)]; exact HM.out.2.1.2.2 x y h1 h2 h3 h4)).mono ?_
      rintro e w4 ⟨rfl, d3, S4, i3, p3⟩
      have J := merge_join (by omega) (by omega) (by omega) HM.out.2.2 P2.out I2.out p3 i3
      have JJ : Aside (Inc T d3 a b ∧ PermIn a b d d3) := J
      have S5 : Aside (SWK enc k w0 blk off d3 w4) := S4
      clear J i3 p3 S4
      go_wp2
      go_end0
      exact ⟨rfl, d3, S5.out, JJ.out.1, permIn_trans _ _ _ _ _ HP1.out JJ.out.2⟩
     ·exfalso
      have h1 := HLH.out.1
      have h2 := HLH.out.2
      rw [if_pos hq] at h1 h2
      omega
     ·exfalso
      have h1 := HLH.out.1
      have h2 := HLH.out.2
      rw [if_pos hq] at h1 h2
      omega
     ·exfalso
      have h1 := HLH.out.1
      have h2 := HLH.out.2
      rw [if_pos hq] at h1 h2
      omega
     ·exfalso
      have h1 := HLH.out.1
      have h2 := HLH.out.2
      rw [if_pos hq] at h1 h2
      omega
     ·exfalso
      have h1 := HLH.out.1
      have h2 := HLH.out.2
      rw [if_pos hq] at h1 h2
      omega
     ·exfalso
      have h1 := HLH.out.1
      have h2 := HLH.out.2
      rw [if_pos hq] at h1 h2
      omega
     ·exfalso
      have h1 := HLH.out.1
      have h2 := HLH.out.2
      rw [if_pos hq] at h1 h2
      omega
     ·exfalso
      have h1 := HLH.out.1
      have h2 := HLH.out.2
      rw [if_pos hq] at h1 h2
      omega
     ·exfalso
      have h1 := HLH.out.1
      have h2 := HLH.out.2
      rw [if_pos hq] at h1 h2
      omega
     ·exfalso
      have h1 := HLH.out.1
      have h2 := HLH.out.2
      rw [if_pos hq] at h1 h2
      omega
     ·exfalso
      have h1 := HLH.out.1
      have h2 := HLH.out.2
      rw [if_pos hq] at h1 h2
      omega
  ·skip
   go_enter Tryz.func134, Tryz.ntmps134
   go_wp2_with fail
   go_loopg [20, 21] (hi - lo) (fun kx s10 s11 wr => ∃ i j : Nat, s10 = .int .i64 i ∧ s11 = .int .i64 j ∧ lo ≤ i ∧ i ≤ j ∧ j ≤ hi ∧ j - i ≤ kx ∧ Aside (SWK enc k w0 blk off d wr) ∧ Aside (∀ c, lo ≤ c → c < i → ltOf cf d[mid + m - 1 - c]! d[c]! = false) ∧ Aside (∀ c, j ≤ c → c < hi → ltOf cf d[mid + m - 1 - c]! d[c]! = true))
   case atStart => exact ⟨lo, hi, by rw [HLH.out.1]; rw [if_neg hq], by rw [HLH.out.2]; rw [if_neg hq], by omega, by omega, by omega, by omega, S0, fun c x y => by omega, fun c x y => by omega⟩
   case round =>
    clear S0
    obtain ⟨i, j, rfl, rfl, hmi, hij, hjb, hkx, S1, F1, F2⟩ := hrel
    by_cases hlt : i < j
    ·have hlz : (i : Int) < (j : Int) := by omega
     obtain ⟨h, hh⟩ : ∃ h, h = (i + j) / 2 := ⟨_, rfl⟩
     have eh : ((i : Int) + (j : Int)) / 2 = (h : Int) := by omega
     have hh1 : i ≤ h := by omega
     have hh2 : h < j := by omega
     have hhd : h < d.size := by omega
     have hz3 : (h : Int) < (d.size : Int) := by omega
     have hz4 : (0 : Int) ≤ (h : Int) := by omega
     have rh : IntKind.i64.wrap (h : Int) = (h : Int) := by rw [IntKind.wrap_i64]; omega
     obtain ⟨p, hp⟩ : ∃ p, p = mid + m - 1 - h := ⟨_, rfl⟩
     have ep : (mid : Int) + (m : Int) - 1 - (h : Int) = (p : Int) := by omega
     have hp1 : m ≤ p := by omega
     have hp2 : p < b := by omega
     have hz5 : (p : Int) < (d.size : Int) := by omega
     have hz6 : (0 : Int) ≤ (p : Int) := by omega
     have rp : IntKind.i64.wrap (p : Int) = (p : Int) := by rw [IntKind.wrap_i64]; omega
     have HHP : Aside (p = mid + m - 1 - h) := hp
     clear hh hp
     have lh := fun n os => S1.out.ld R hs.symm Tryz.prog h (by omega) n os
     have la := fun n os => S1.out.ld R hs.symm Tryz.prog p (by omega) n os
     have hcg := fun n os => S1.out.cmp C0.out hs.symm d[p]! d[h]! n os
     have GG : Aside (∀ n os, SWK enc k w0 blk off d (grow (wr.drewN n) os)) := fun n os => S1.out.grown n os
     obtain ⟨xh, hxh⟩ : ∃ x, x = d[h]! := ⟨_, rfl⟩
     obtain ⟨xa, hxa⟩ : ∃ x, x = d[p]! := ⟨_, rfl⟩
     rw [← hxh] at lh hcg
     rw [← hxa] at la hcg
     have HXX : Aside (xh = d[h]! ∧ xa = d[p]!) := ⟨hxh, hxa⟩
     clear hxh hxa S1
     by_cases hlv : cf xa xh < 0
     ·have hlb : decide (cf xa xh < 0) = true := decide_eq_true hlv
      go_wp2_with fail
      go_quiet_grown (first | (go_at_fn g; refine Calls.grown_of (hcg _ _)))
      have S2 : Aside (SWK enc k w0 blk off d (grow (wr.drewN nq) osq)) := GG.out nq osq
      clear lh la hcg GG
      generalize grow (wr.drewN nq) osq = w2 at S2 ⊢
      have NF : Aside (∀ c, h ≤ c → c < hi → ltOf cf d[mid + m - 1 - c]! d[c]! = true) := fun c x y =>
       cross_t TT.out.1 TT.out.2 II.out.1 II.out.2.1 II.out.2.2 (i := h) (j := p) ⟨by omega, by omega, by omega⟩ (by have := HHP.out; exact ⟨by omega, by omega, by omega⟩) (by rw [← HXX.out.1, ← HXX.out.2]; exact hlb)
      go_wp2
      go_roundg (h - i)
      case measure => omega
      case rel => exact ⟨i, h, rfl, rfl, by omega, by omega, by omega, Nat.le_refl _, S2, F1, NF⟩
     ·have hlb : decide (cf xa xh < 0) = false := decide_eq_false hlv
      go_wp2_with fail
      go_quiet_grown (first | (go_at_fn g; refine Calls.grown_of (hcg _ _)))
      have S2 : Aside (SWK enc k w0 blk off d (grow (wr.drewN nq) osq)) := GG.out nq osq
      clear lh la hcg GG
      generalize grow (wr.drewN nq) osq = w2 at S2 ⊢
      have NF : Aside (∀ c, lo ≤ c → c < h + 1 → ltOf cf d[mid + m - 1 - c]! d[c]! = false) := fun c x y =>
       cross_f TT.out.1 TT.out.2 II.out.1 II.out.2.1 II.out.2.2 (i := h) (j := p) ⟨by omega, by omega, by omega⟩ (by have := HHP.out; exact ⟨by omega, by omega, by omega⟩) (by rw [← HXX.out.1, ← HXX.out.2]; exact hlb)
      go_wp2
      go_roundg (j - (h + 1))
      case measure => omega
      case rel => exact ⟨h + 1, j, by go_num, rfl, by omega, by omega, by omega, Nat.le_refl _, S2, NF, F2⟩
    ·obtain rfl : i = j := by omega
     have HCUT : Aside (Cut (ltOf cf) d (mid + m - 1) lo hi i) := ⟨by omega, by omega, F1.out, F2.out⟩
     obtain ⟨p, hp⟩ : ∃ p, p = mid + m - i := ⟨_, rfl⟩
     have ep : (mid : Int) + (m : Int) - (i : Int) = (p : Int) := by omega
     have rp : IntKind.i64.wrap (p : Int) = (p : Int) := by rw [IntKind.wrap_i64]; omega
     have HPI : Aside (p = mid + m - i) := hp
     have p1 : m ≤ p := by omega
     have p2 : p ≤ b := by omega
     have p3 : p ≤ d.size := by omega
     by_cases x1 : i < m <;> by_cases x2 : i < mid <;> by_cases x3 : a < i <;> by_cases x4 : p < b
     ·clear hp
      have y1 : (i : Int) < (m : Int) := by omega
      have y2 : (m : Int) < (p : Int) := by omega
      have y3 : (a : Int) < (i : Int) := by omega
      have y4 : (i : Int) < (mid : Int) := by omega
      have y5 : (mid : Int) < (p : Int) := by omega
      have y6 : (p : Int) < (b : Int) := by omega
      go_wp2_with fail
      refine (rotExc k zE enc g cb blk off cap i m p a b d0 d w0 wr R hs S1.out (by omega) (by omega) (by omega) (by omega) (by omega) (by omega) (by omega)).mono ?_
      rintro e w2 ⟨rfl, d1, S2', hR, hP⟩
      have HR : Aside (RotR d d1 i m (mid + m - i)) := by rw [← HPI.out]; exact hR
      have HP1 : Aside (PermIn a b d d1) := hP
      have hz1 : d1.size = d.size := hR.1
      have S2 : Aside (SWK enc k w0 blk off d1 w2) := S2'
      clear hR hP S1 S2'
      have HM : Aside ((Inc T d1 a i ∧ Inc T d1 i mid ∧ Cross T (ltOf cf) d1 a i mid) ∧ (Inc T d1 mid p ∧ Inc T d1 p b ∧ Cross T (ltOf cf) d1 mid p b) ∧ (∀ i j, a ≤ i → i < mid → mid ≤ j → j < b → T d1[i]! d1[j]!)) := by
       have M := merge_halves TT.out.1 ham hmb II.out.1 II.out.2.1 II.out.2.2 mid HMID.out HLH.out.1 HLH.out.2 HCUT.out HR.out
       rw [← HPI.out] at M
       exact ⟨M.1, M.2.1, M.2.2.1⟩
      go_wp2_with fail
      rw [← hz1]
      refine (IH0.out a i mid d1 w2 (by omega) (by omega) S2.out (by omega) (by omega) (by omega) HM.out.1.1 HM.out.1.2.1 HM.out.1.2.2).mono ?_
      rintro e w3 ⟨rfl, d2, S3', i2, p2⟩
      have I2 : Aside (Inc T d2 a mid) := i2
      have P2 : Aside (PermIn a mid d1 d2) := p2
      have hz2 : d2.size = d.size := by rw [p2.1]; exact hz1
      have S3 : Aside (SWK enc k w0 blk off d2 w3) := S3'
      clear i2 p2 S3' S2
      go_wp2_with fail
      rw [← hz2]
      have KP : Aside (∀ x, mid ≤ x → d2[x]! = d1[x]!) := fun x h => P2.out.2.1 x (Or.inr h)
      refine (IH0.out mid p b d2 w3 (by omega) (by omega) S3.out (by omega) (by omega) (by omega) (HM.out.2.1.1.same fun x h _ => KP.out x h) (HM.out.2.1.2.1.same fun x h _ => KP.out x (by omega)) (fun x y h1 h2 h3 h4 => by rw [KP.out x h1, KP.out y (by omega)]; exact HM.out.2.1.2.2 x y h1 h2 h3 h4)).mono ?_
      rintro e w4 ⟨rfl, d3, S4, i3, p3⟩
      have J := merge_join (by omega) (by omega) (by omega) HM.out.2.2 P2.out I2.out p3 i3
      have JJ : Aside (Inc T d3 a b ∧ PermIn a b d1 d3) := J
      have S5 : Aside (SWK enc k w0 blk off d3 w4) := S4
      clear J i3 p3 S4
      go_wp2
      go_end0
      exact ⟨rfl, d3, S5.out, JJ.out.1, permIn_trans _ _ _ _ _ HP1.out JJ.out.2⟩
     ·exfalso
      have h1 := HLH.out.1
      have h2 := HLH.out.2
      rw [if_neg hq] at h1 h2
      omega
     ·clear hp
      have y1 : (i : Int) < (m : Int) := by omega
      have y2 : (m : Int) < (p : Int) := by omega
      have y3 : ¬ (a : Int) < (i : Int) := by omega
      have y4 : (i : Int) < (mid : Int) := by omega
      have y5 : (mid : Int) < (p : Int) := by omega
      have y6 : (p : Int) < (b : Int) := by omega
      go_wp2_with fail
      refine (rotExc k zE enc g cb blk off cap i m p a b d0 d w0 wr R hs S1.out (by omega) (by omega) (by omega) (by omega) (by omega) (by omega) (by omega)).mono ?_
      rintro e w2 ⟨rfl, d1, S2', hR, hP⟩
      have HR : Aside (RotR d d1 i m (mid + m - i)) := by rw [← HPI.out]; exact hR
      have HP1 : Aside (PermIn a b d d1) := hP
      have hz1 : d1.size = d.size := hR.1
      have S2 : Aside (SWK enc k w0 blk off d1 w2) := S2'
      clear hR hP S1 S2'
      have HM : Aside ((Inc T d1 a i ∧ Inc T d1 i mid ∧ Cross T (ltOf cf) d1 a i mid) ∧ (Inc T d1 mid p ∧ Inc T d1 p b ∧ Cross T (ltOf cf) d1 mid p b) ∧ (∀ i j, a ≤ i → i < mid → mid ≤ j → j < b → T d1[i]! d1[j]!)) := by
       have M := merge_halves TT.out.1 ham hmb II.out.1 II.out.2.1 II.out.2.2 mid HMID.out HLH.out.1 HLH.out.2 HCUT.out HR.out
       rw [← HPI.out] at M
       exact ⟨M.1, M.2.1, M.2.2.1⟩
      have I2 : Aside (Inc T d1 a mid) := by
       have e : i = a := by omega
       have := HM.out.1.2.1; rw [e] at this; exact this
      have P2 : Aside (PermIn a mid d1 d1) := permIn_refl _ a mid
      have S3 := S2
      have hz2 : d1.size = d.size := hz1
      go_wp2_with fail
      rw [← hz2]
      have KP : Aside (∀ x, mid ≤ x → d1[x]! = d1[x]!) := fun x h => P2.out.2.1 x (Or.inr h)
      refine (IH0.out mid p b d1 w2 (by omega) (by omega) S3.out (by omega) (by omega) (by omega) (HM.out.2.1.1.same fun x h _ => KP.out x h) (HM.out.2.1.2.1.same fun x h _ => KP.out x (by omega)) (fun x y h1 h2 h3 h4 => by rw [KP.out x h1, KP.out y (by omega)]; exact HM.out.2.1.2.2 x y h1 h2 h3 h4)).mono ?_
      rintro e w4 ⟨rfl, d3, S4, i3, p3⟩
      have J := merge_join (by omega) (by omega) (by omega) HM.out.2.2 P2.out I2.out p3 i3
      have JJ : Aside (Inc T d3 a b ∧ PermIn a b d1 d3) := J
      have S5 : Aside (SWK enc k w0 blk off d3 w4) := S4
      clear J i3 p3 S4
      go_wp2
      go_end0
      exact ⟨rfl, d3, S5.out, JJ.out.1, permIn_trans _ _ _ _ _ HP1.out JJ.out.2⟩
     ·clear hp
      have y1 : (i : Int) < (m : Int) := by omega
      have y2 : (m : Int) < (p : Int) := by omega
      have y3 : ¬ (a : Int) < (i : Int) := by omega
      have y4 : (i : Int) < (mid : Int) := by omega
      have y5 : (mid : Int) < (p : Int) := by omega
      have y6 : ¬ (p : Int) < (b : Int) := by omega
      go_wp2_with fail
      refine (rotExc k zE enc g cb blk off cap i m p a b d0 d w0 wr R hs S1.out (by omega) (by omega) (by omega) (by omega) (by omega) (by omega) (by omega)).mono ?_
      rintro e w2 ⟨rfl, d1, S2', hR, hP⟩
      have HR : Aside (RotR d d1 i m (mid + m - i)) := by rw [← HPI.out]; exact hR
      have HP1 : Aside (PermIn a b d d1) := hP
      have hz1 : d1.size = d.size := hR.1
      have S2 : Aside (SWK enc k w0 blk off d1 w2) := S2'
      clear hR hP S1 S2'
      have HM : Aside ((Inc T d1 a i ∧ Inc T d1 i mid ∧ Cross T (ltOf cf) d1 a i mid) ∧ (Inc T d1 mid p ∧ Inc T d1 p b ∧ Cross T (ltOf cf) d1 mid p b) ∧ (∀ i j, a ≤ i → i < mid → mid ≤ j → j < b → T d1[i]! d1[j]!)) := by
       have M := merge_halves TT.out.1 ham hmb II.out.1 II.out.2.1 II.out.2.2 mid HMID.out HLH.out.1 HLH.out.2 HCUT.out HR.out
       rw [← HPI.out] at M
       exact ⟨M.1, M.2.1, M.2.2.1⟩
      have I2 : Aside (Inc T d1 a mid) := by
       have e : i = a := by omega
       have := HM.out.1.2.1; rw [e] at this; exact this
      have P2 : Aside (PermIn a mid d1 d1) := permIn_refl _ a mid
      have S3 := S2
      have hz2 : d1.size = d.size := hz1
      have KP : Aside (∀ x, mid ≤ x → d1[x]! = d1[x]!) := fun x h => P2.out.2.1 x (Or.inr h)
      have I3 : Aside (Inc T d1 mid b) := by
       have e : p = b := by omega
       have h := HM.out.2.1.1; rw [e] at h; exact h.same fun x h _ => KP.out x h
      have JJ : Aside (Inc T d1 a b ∧ PermIn a b d1 d1) := merge_join (by omega) (by omega) (by omega) HM.out.2.2 P2.out I2.out (permIn_refl _ mid b) I3.out
      have S5 := S3
      go_wp2
      go_end0
      exact ⟨rfl, d1, S5.out, JJ.out.1, permIn_trans _ _ _ _ _ HP1.out JJ.out.2⟩
     ·exfalso
      have h1 := HLH.out.1
      have h2 := HLH.out.2
      rw [if_neg hq] at h1 h2
      omega
     ·exfalso
      have h1 := HLH.out.1
      have h2 := HLH.out.2
      rw [if_neg hq] at h1 h2
      omega
     ·exfalso
      have h1 := HLH.out.1
      have h2 := HLH.out.2
      rw [if_neg hq] at h1 h2
      omega
     ·exfalso
      have h1 := HLH.out.1
      have h2 := HLH.out.2
      rw [if_neg hq] at h1 h2
      omega
     ·clear hp
      have y1 : ¬ (i : Int) < (m : Int) := by omega
      have y2 : (m : Int) < (p : Int) := by omega
      have y3 : (a : Int) < (i : Int) := by omega
      have y4 : (i : Int) < (mid : Int) := by omega
      have y5 : ¬ (mid : Int) < (p : Int) := by omega
      have y6 : (p : Int) < (b : Int) := by omega
      go_wp2_with fail
      have HR : Aside (RotR d d i m (mid + m - i)) := by rw [← HPI.out]; exact RotR.none (by omega) (by omega) (by omega)
      have HP1 : Aside (PermIn a b d d) := permIn_refl d a b
      have S2 := S1
      have hz1 : d.size = d.size := rfl
      have HM : Aside ((Inc T d a i ∧ Inc T d i mid ∧ Cross T (ltOf cf) d a i mid) ∧ (Inc T d mid p ∧ Inc T d p b ∧ Cross T (ltOf cf) d mid p b) ∧ (∀ i j, a ≤ i → i < mid → mid ≤ j → j < b → T d[i]! d[j]!)) := by
       have M := merge_halves TT.out.1 ham hmb II.out.1 II.out.2.1 II.out.2.2 mid HMID.out HLH.out.1 HLH.out.2 HCUT.out HR.out
       rw [← HPI.out] at M
       exact ⟨M.1, M.2.1, M.2.2.1⟩
      refine (IH0.out a i mid d wr (by omega) (by omega) S2.out (by omega) (by omega) (by omega) HM.out.1.1 HM.out.1.2.1 HM.out.1.2.2).mono ?_
      rintro e w3 ⟨rfl, d2, S3', i2, p2⟩
      have I2 : Aside (Inc T d2 a mid) := i2
      have P2 : Aside (PermIn a mid d d2) := p2
      have hz2 : d2.size = d.size := by rw [p2.1]
      have S3 : Aside (SWK enc k w0 blk off d2 w3) := S3'
      clear i2 p2 S3' S2
      have KP : Aside (∀ x, mid ≤ x → d2[x]! = d[x]!) := fun x h => P2.out.2.1 x (Or.inr h)
      have I3 : Aside (Inc T d2 mid b) := by
       have e : p = mid := by have := HPI.out; omega
       have h := HM.out.2.1.2.1; rw [e] at h; exact h.same fun x h _ => KP.out x h
      have JJ : Aside (Inc T d2 a b ∧ PermIn a b d d2) := merge_join (by omega) (by omega) (by omega) HM.out.2.2 P2.out I2.out (permIn_refl _ mid b) I3.out
      have S5 := S3
      go_wp2
      go_end0
      exact ⟨rfl, d2, S5.out, JJ.out.1, permIn_trans _ _ _ _ _ HP1.out JJ.out.2⟩
     ·exfalso
      have h1 := HLH.out.1
      have h2 := HLH.out.2
      rw [if_neg hq] at h1 h2
      omega
     ·exfalso
      have h1 := HLH.out.1
      have h2 := HLH.out.2
      rw [if_neg hq] at h1 h2
      omega
     ·exfalso
      have h1 := HLH.out.1
      have h2 := HLH.out.2
      rw [if_neg hq] at h1 h2
      omega
     ·clear hp
      have y1 : ¬ (i : Int) < (m : Int) := by omega
      have y2 : ¬ (m : Int) < (p : Int) := by omega
      have y3 : (a : Int) < (i : Int) := by omega
      have y4 : ¬ (i : Int) < (mid : Int) := by omega
      have y5 : ¬ (mid : Int) < (p : Int) := by omega
      have y6 : (p : Int) < (b : Int) := by omega
      go_wp2_with fail
      have HR : Aside (RotR d d i m (mid + m - i)) := by rw [← HPI.out]; exact RotR.none (by omega) (by omega) (by omega)
      have HP1 : Aside (PermIn a b d d) := permIn_refl d a b
      have S2 := S1
      have hz1 : d.size = d.size := rfl
      have HM : Aside ((Inc T d a i ∧ Inc T d i mid ∧ Cross T (ltOf cf) d a i mid) ∧ (Inc T d mid p ∧ Inc T d p b ∧ Cross T (ltOf cf) d mid p b) ∧ (∀ i j, a ≤ i → i < mid → mid ≤ j → j < b → T d[i]! d[j]!)) := by
       have M := merge_halves TT.out.1 ham hmb II.out.1 II.out.2.1 II.out.2.2 mid HMID.out HLH.out.1 HLH.out.2 HCUT.out HR.out
       rw [← HPI.out] at M
       exact ⟨M.1, M.2.1, M.2.2.1⟩
      have I2 : Aside (Inc T d a mid) := by
       have e : i = mid := by omega
       have := HM.out.1.1; rw [e] at this; exact this
      have P2 : Aside (PermIn a mid d d) := permIn_refl _ a mid
      have S3 := S2
      have hz2 : d.size = d.size := rfl
      have KP : Aside (∀ x, mid ≤ x → d[x]! = d[x]!) := fun x h => P2.out.2.1 x (Or.inr h)
      have I3 : Aside (Inc T d mid b) := by
       have e : p = mid := by have := HPI.out; omega
       have h := HM.out.2.1.2.1; rw [e] at h; exact h.same fun x h _ => KP.out x h
      have JJ : Aside (Inc T d a b ∧ PermIn a b d d) := merge_join (by omega) (by omega) (by omega) HM.out.2.2 P2.out I2.out (permIn_refl _ mid b) I3.out
      have S5 := S3
      go_end0
      exact ⟨rfl, d, S5.out, JJ.out.1, permIn_trans _ _ _ _ _ HP1.out JJ.out.2⟩
     ·exfalso
      have h1 := HLH.out.1
      have h2 := HLH.out.2
      rw [if_neg hq] at h1 h2
      omega
     ·exfalso
      have h1 := HLH.out.1
      have h2 := HLH.out.2
      rw [if_neg hq] at h1 h2
      omega
     ·exfalso
      have h1 := HLH.out.1
      have h2 := HLH.out.2
      rw [if_neg hq] at h1 h2
      omega
theorem symExc (k : Nat) (zE : ∀ w, (Go.sizeOf 62).run Tryz.prog w = .ok k w) (enc : α → List Value) (g : Nat) (cb : Array Value) (eg : ∀ args w, (callFunc g args).run Tryz.prog w = .ok (.enter g args) w) (cf : α → α → Int) (T : α → α → Prop) (htr : ∀ x y z, T x y → T y z → T x z) (hirr : ∀ x, ¬ T x x) (blk off cap : Nat) (d0 : Array α) (w0 : World) (hC : CmpLays Tryz.prog g cb enc k cf blk off d0.size w0) (hsz : d0.size < 4611686018427387904)
  (R : RowK enc k w0 blk off d0) : ∀ (N a m b : Nat) (d : Array α) (w : World), b - a ≤ N → d0.size = d.size → SWK enc k w0 blk off d w → a < m → m < b → b ≤ d.size → Inc T d a m → Inc T d m b → Cross T (ltOf cf) d a m b →
  Calls Tryz.prog 134 #[.slice (some ⟨blk, off, none⟩) d.size cap, .int .i64 a, .int .i64 m, .int .i64 b, .func (.func g) #[] cb] w fun e w' => e = .returned (.tuple #[]) ∧ ∃ d', SWK enc k w0 blk off d' w' ∧ Inc T d' a b ∧ PermIn a b d d' := by
 intro N
 induction N with
 | zero => intro a m b d w hN hs S ham hmb hb h1 h2 hX; omega
 | succ N IH =>
  intro a m b d w hN hs S ham hmb hb h1 h2 hX
  by_cases e1 : m = a + 1
  ·exact sym1Exc k zE enc g cb eg cf T htr hirr blk off cap d0 w0 hC hsz R a m b d w hs S e1 hmb hb h1 h2 hX
  by_cases e2 : b = m + 1
  ·exact sym2Exc k zE enc g cb eg cf T htr hirr blk off cap d0 w0 hC hsz R a m b d w hs S (by omega) e2 hb h1 h2 hX
  exact symStepExc k zE enc g cb eg cf T htr hirr blk off cap d0 w0 hC hsz R N IH a m b d w hN hs S ham hmb hb h1 h2 hX e1 e2
end
end Go.Proofs.YtaneolfnnkppbaaGreatDoor
namespace Go.Proofs.YtaneolfnnkppbaaGreatDoor
open Go Go.Shelf Go.RowKit Go.Lib Go.Sort
section
variable {α : Type} [Inhabited α]
set_option maxHeartbeats 8000000 in
set_option maxRecDepth 1000000 in
theorem stabExc (k : Nat) (zE : ∀ w, (Go.sizeOf 62).run Tryz.prog w = .ok k w) (enc : α → List Value) (g : Nat) (cb : Array Value) (eg : ∀ args w, (callFunc g args).run Tryz.prog w = .ok (.enter g args) w) (cf : α → α → Int) (tg : α → Nat) (hO : SWO (ltOf cf)) (blk off cap n : Nat) (d0 : Array α) (w0 : World) (hC : CmpLays Tryz.prog g cb enc k cf blk off d0.size w0) (hn : d0.size = n) (hsz : n < 1152921504606846976)
  (R : RowK enc k w0 blk off d0) (ht : ∀ i, i < n → tg d0[i]! = i) (S : SWK enc k w0 blk off d0 w0)
  (hI : ∀ (a b : Nat) (d : Array α) (w : World), d.size = n → SWK enc k w0 blk off d w → a ≤ b → b ≤ n → Calls Tryz.prog 133 #[.slice (some ⟨blk, off, none⟩) n cap, .int .i64 a, .int .i64 b, .func (.func g) #[] cb] w fun e w' => e = .returned (.tuple #[]) ∧ SWK enc k w0 blk off (insertionSort (ltOf cf) d a b) w') :
  Calls Tryz.prog 102 #[.slice (some ⟨blk, off, none⟩) n cap, .int .i64 n, .func (.func g) #[] cb] w0 fun e w' => e = .returned (.tuple #[]) ∧ ∃ d', SWK enc k w0 blk off d' w' ∧ Inc (Tie tg (ltOf cf)) d' 0 n ∧ PermIn 0 n d0 d' := by
 have T1 : Aside _ := ht
 have I1 : Aside _ := hI
 have M1 : Aside (∀ (a m b : Nat) (d : Array α) (w : World), d.size = n → SWK enc k w0 blk off d w → a < m → m < b → b ≤ n → Blk tg (ltOf cf) d a m → Blk tg (ltOf cf) d m b →
   Calls Tryz.prog 134 #[.slice (some ⟨blk, off, none⟩) n cap, .int .i64 a, .int .i64 m, .int .i64 b, .func (.func g) #[] cb] w fun e w' => e = .returned (.tuple #[]) ∧ ∃ d', SWK enc k w0 blk off d' w' ∧ Blk tg (ltOf cf) d' a b ∧ PermIn a b d d') := by
  intro a m b d w hd hS h1 h2 h3 h4 h5
  have := symExc k zE enc g cb eg cf (Tie tg (ltOf cf)) (Tie.trans hO) (Tie.irrefl hO) blk off cap d0 w0 hC (by omega) R (b - a) a m b d w (Nat.le_refl _) (by omega) hS h1 h2 (by omega) h4.1 h5.1 (h4.cross h5)
  rw [hd] at this
  refine this.mono ?_
  rintro e w' ⟨rfl, d', S', i', p'⟩
  exact ⟨rfl, d', S', Blk.merged h4 h5 (by omega) (by omega) (by omega) p' i', p'⟩
 have S0 : Aside (SWK enc k w0 blk off d0 w0) := S
 have P0 : Aside (PermIn 0 n d0 d0) := permIn_refl d0 0 n
 have N0 : Aside (d0.size = n) := hn
 have O0 : Aside (SWO (ltOf cf)) := hO
 have R0 : Aside (RunsTo tg (ltOf cf) d0 20 0) := fun k hk => by omega
 clear ht hI S hC hn hO eg zE R
 go_enter Tryz.func102, Tryz.ntmps102
 go_wp2
 go_loopg [7, 8] n (fun kx s7 s8 wr => ∃ (r A : Nat) (dk : Array α), s7 = .int .i64 A ∧ s8 = .int .i64 ((A : Int) + 20) ∧ A ≤ n ∧ n - A ≤ kx ∧ Aside (A = r * 20) ∧ Aside (dk.size = n) ∧ Aside (SWK enc k w0 blk off dk wr) ∧ Aside (RunsTo tg (ltOf cf) dk 20 r) ∧ Aside (∀ i, A ≤ i → dk[i]! = d0[i]!) ∧ Aside (PermIn 0 n d0 dk))
 case atStart => exact ⟨0, 0, d0, by go_num, by go_num, by omega, by omega, rfl, N0, S0, R0, fun i _ => rfl, P0⟩
 case round =>
  clear S0 P0 R0
  obtain ⟨r, A, dk, rfl, rfl, hA, hkx, HA, ND, S1, RT, UN, P1⟩ := hrel
  by_cases hlt : A + 20 ≤ n
  ·have hlz : (A : Int) + 20 ≤ (n : Int) := by omega
   have q1 : decide ((A : Int) + 20 ≤ (n : Int)) = true := decide_eq_true hlz
   have hlz2 : ¬ (n : Int) < (A : Int) + 20 := by omega
   go_wp2_with fail
   rw [show ((A : Int) + 20) = ((A + 20 : Nat) : Int) by omega]
   refine (I1.out A (A + 20) dk wr ND.out S1.out (by omega) hlt).mono ?_
   rintro e w2 ⟨rfl, S2'⟩
   obtain ⟨b1, b2⟩ := insertion_blk (tg := tg) O0.out (d := dk) (a := A) (b := A + 20) (by omega) (by rw [ND.out]; exact hlt) (fun i x y => by rw [UN.out i x]; exact T1.out i (by omega))
   have S2 : Aside (SWK enc k w0 blk off (insertionSort (ltOf cf) dk A (A + 20)) w2) := S2'
   generalize insertionSort (ltOf cf) dk A (A + 20) = dn at S2 b1 b2
   have ND2 : Aside (dn.size = n) := b1.1.trans ND.out
   have RT2 : Aside (RunsTo tg (ltOf cf) dn 20 (r + 1)) := (RT.out.other b1 (by rw [HA.out]; exact Nat.le_refl _)).more (by rw [← HA.out]; exact b2)
   have UN2 : Aside (∀ i, A + 20 ≤ i → dn[i]! = d0[i]!) := fun i h => by rw [b1.2.1 i (Or.inr h)]; exact UN.out i (by omega)
   have P2 : Aside (PermIn 0 n d0 dn) := permIn_trans _ _ _ _ _ P1.out (permIn_mono _ _ _ _ _ _ (Nat.zero_le _) hlt (by rw [ND.out]; exact Nat.le_refl _) b1)
   have HA2 : Aside (A + 20 = (r + 1) * 20) := by show _ = _; rw [HA.out, Nat.succ_mul]
   clear b1 b2 S2' S1 RT UN P1 q1
   go_wp2
   go_roundg (n - (A + 20))
   case measure => omega
   case rel => exact ⟨r + 1, A + 20, dn, by first | rfl | go_num, by first | go_num | (congr 1; omega), hlt, Nat.le_refl _, HA2, ND2, S2, RT2, UN2, P2⟩
  ·have hlz : ¬ (A : Int) + 20 ≤ (n : Int) := by omega
   have q1 : decide ((A : Int) + 20 ≤ (n : Int)) = false := decide_eq_false hlz
   have hlz2 : (n : Int) < (A : Int) + 20 := by omega
   go_wp2_with fail
   refine (I1.out A n dk wr ND.out S1.out (by omega) (Nat.le_refl _)).mono ?_
   rintro e w2 ⟨rfl, S2'⟩
   obtain ⟨b1, b2⟩ := insertion_blk (tg := tg) O0.out (d := dk) (a := A) (b := n) (by omega) (by rw [ND.out]; exact Nat.le_refl _) (fun i x y => by rw [UN.out i x]; exact T1.out i (by omega))
   have S2 : Aside (SWK enc k w0 blk off (insertionSort (ltOf cf) dk A n) w2) := S2'
   generalize insertionSort (ltOf cf) dk A n = dn at S2 b1 b2
   have ND2 : Aside (dn.size = n) := b1.1.trans ND.out
   have P2 : Aside (PermIn 0 n d0 dn) := permIn_trans _ _ _ _ _ P1.out (permIn_mono _ _ _ _ _ _ (Nat.zero_le _) (Nat.le_refl _) (by rw [ND.out]; exact Nat.le_refl _) b1)
   have RS : Aside (Runs tg (ltOf cf) dn 20 0 n) := (RT.out.other b1 (by rw [HA.out]; exact Nat.le_refl _)).runs (by rw [← HA.out]; exact hA) (fun _ => by rw [← HA.out]; exact b2) (by rw [← HA.out]; omega)
   clear b1 b2 S2' S1 RT UN P1 q1 hA hlt hlz hlz2 HA hkx I1 T1
   go_wp2
   go_loopg [6] n (fun kx s6 wr => ∃ (bs : Nat) (dk : Array α), s6 = .int .i64 bs ∧ 0 < bs ∧ bs ≤ n + n + 20 ∧ n - bs ≤ kx ∧ Aside (dk.size = n) ∧ Aside (SWK enc k w0 blk off dk wr) ∧ Aside (Runs tg (ltOf cf) dk bs 0 n) ∧ Aside (PermIn 0 n d0 dk))
   case atStart => exact ⟨20, dn, by go_num, by omega, by omega, by omega, ND2, S2, RS, P2⟩
   case round =>
    clear S2 P2 RS ND2
    obtain ⟨bs, dk, rfl, hbs, hbs2, hkx, ND, S1, RS, P1⟩ := hrel
    by_cases hlt : bs < n
    ·have hlz : (bs : Int) < (n : Int) := by omega
     have r1 : IntKind.i64.wrap (2 * (bs : Int)) = 2 * (bs : Int) := by rw [IntKind.wrap_i64]; omega
     have RT0 : Aside (RunsTo tg (ltOf cf) dk (2 * bs) 0) := fun k hk => by omega
     have HA0 : Aside (0 = 0 * (2 * bs)) := by show _ = _; rw [Nat.zero_mul]
     go_wp2_with fail
     go_loopg [7, 8] n (fun kx s7 s8 wr => ∃ (r A : Nat) (dj : Array α), s7 = .int .i64 A ∧ s8 = .int .i64 ((A : Int) + 2 * (bs : Int)) ∧ A ≤ n ∧ n - A ≤ kx ∧ Aside (A = r * (2 * bs)) ∧ Aside (dj.size = n) ∧ Aside (SWK enc k w0 blk off dj wr) ∧ Aside (RunsTo tg (ltOf cf) dj (2 * bs) r) ∧ Aside (Runs tg (ltOf cf) dj bs A n) ∧ Aside (PermIn 0 n d0 dj))
     case atStart => exact ⟨0, 0, dk, by go_num, by first | go_num | (congr 1; omega), by omega, by omega, HA0, ND, S1, RT0, RS, P1⟩
     case round =>
      clear S1 RT0 RS P1 ND HA0
      obtain ⟨r, A, dj, rfl, rfl, hA, hkx2, HA, NDj, S1, RT, RS, P1⟩ := hrel
      by_cases hl2 : A + 2 * bs ≤ n
      ·have z1 : (A : Int) + 2 * (bs : Int) ≤ (n : Int) := by omega
       have q1 : decide ((A : Int) + 2 * (bs : Int) ≤ (n : Int)) = true := decide_eq_true z1
       have z2 : ¬ (n : Int) < (A : Int) + 2 * (bs : Int) := by omega
       have B1 : Aside (Blk tg (ltOf cf) dj A (A + bs)) := RS.out.first (by omega) hbs
       have B2 : Aside (Blk tg (ltOf cf) dj (A + bs) (A + 2 * bs)) := by
        have := (RS.out.tail 1).first (by omega) hbs
        rw [Nat.one_mul, show A + bs + bs = A + 2 * bs by omega] at this; exact this
       go_wp2_with fail
       rw [show ((A : Int) + (bs : Int)) = ((A + bs : Nat) : Int) by omega, show ((A : Int) + 2 * (bs : Int)) = ((A + 2 * bs : Nat) : Int) by omega]
       refine (M1.out A (A + bs) (A + 2 * bs) dj wr NDj.out S1.out (by omega) (by omega) hl2 B1.out B2.out).mono ?_
       rintro e w2 ⟨rfl, dn, S2', b1, b2⟩
       have S2 : Aside (SWK enc k w0 blk off dn w2) := S2'
       have ND2 : Aside (dn.size = n) := b2.1.trans NDj.out
       have RT2 : Aside (RunsTo tg (ltOf cf) dn (2 * bs) (r + 1)) := (RT.out.other b2 (by rw [HA.out]; exact Nat.le_refl _)).more (by rw [← HA.out]; exact b1)
       have RS2 : Aside (Runs tg (ltOf cf) dn bs (A + 2 * bs) n) := (RS.out.tail 2).other b2 (Nat.le_refl _)
       have P2 : Aside (PermIn 0 n d0 dn) := permIn_trans _ _ _ _ _ P1.out (permIn_mono _ _ _ _ _ _ (Nat.zero_le _) hl2 (by rw [NDj.out]; exact Nat.le_refl _) b2)
       have HA2 : Aside (A + 2 * bs = (r + 1) * (2 * bs)) := by show A + 2 * bs = (r + 1) * (2 * bs); rw [HA.out, Nat.add_mul r 1 (2 * bs), Nat.one_mul (2 * bs)]
       clear b1 b2 S2' S1 RT RS P1 B1 B2 q1
       go_wp2
       go_roundg (n - (A + 2 * bs))
       case measure => omega
       case rel => exact ⟨r + 1, A + 2 * bs, dn, by first | rfl | go_num, by first | go_num | (congr 1; omega), hl2, Nat.le_refl _, HA2, ND2, S2, RT2, RS2, P2⟩
      ·have z1 : ¬ (A : Int) + 2 * (bs : Int) ≤ (n : Int) := by omega
       have q1 : decide ((A : Int) + 2 * (bs : Int) ≤ (n : Int)) = false := decide_eq_false z1
       have z2 : (n : Int) < (A : Int) + 2 * (bs : Int) := by omega
       by_cases hm : A + bs < n
       ·have z3 : (A : Int) + (bs : Int) < (n : Int) := by omega
        have B1 : Aside (Blk tg (ltOf cf) dj A (A + bs)) := RS.out.first (by omega) hbs
        have B2 : Aside (Blk tg (ltOf cf) dj (A + bs) n) := by
         have := (RS.out.tail 1).last (by omega) (by omega)
         rw [Nat.one_mul] at this; exact this
        go_wp2_with fail
        rw [show ((A : Int) + (bs : Int)) = ((A + bs : Nat) : Int) by omega]
        refine (M1.out A (A + bs) n dj wr NDj.out S1.out (by omega) hm (Nat.le_refl _) B1.out B2.out).mono ?_
        rintro e w2 ⟨rfl, dn, S2', b1, b2⟩
        have S2 : Aside (SWK enc k w0 blk off dn w2) := S2'
        have ND2 : Aside (dn.size = n) := b2.1.trans NDj.out
        have RS2 : Aside (Runs tg (ltOf cf) dn (2 * bs) 0 n) := (RT.out.other b2 (by rw [HA.out]; exact Nat.le_refl _)).runs (by rw [← HA.out]; exact hA) (fun _ => by rw [← HA.out]; exact b1) (by rw [← HA.out]; omega)
        have P2 : Aside (PermIn 0 n d0 dn) := permIn_trans _ _ _ _ _ P1.out (permIn_mono _ _ _ _ _ _ (Nat.zero_le _) (Nat.le_refl _) (by rw [NDj.out]; exact Nat.le_refl _) b2)
        clear b1 b2 S2' S1 RT RS P1 B1 B2 q1
        go_wp2
        go_roundg (n - 2 * bs)
        case measure => omega
        case rel => exact ⟨2 * bs, dn, by first | go_num | (congr 1; omega), by omega, by omega, Nat.le_refl _, ND2, S2, RS2, P2⟩
       ·have z3 : ¬ (A : Int) + (bs : Int) < (n : Int) := by omega
        have RS2 : Aside (Runs tg (ltOf cf) dj (2 * bs) 0 n) := RT.out.runs (by rw [← HA.out]; exact hA) (fun h => by rw [← HA.out] at h ⊢; exact RS.out.last (by omega) h) (by rw [← HA.out]; omega)
        have S2 := S1
        clear S1 RT RS
        go_wp2
        go_roundg (n - 2 * bs)
        case measure => omega
        case rel => exact ⟨2 * bs, dj, by first | go_num | (congr 1; omega), by omega, by omega, Nat.le_refl _, NDj, S2, RS2, P1⟩
    ·have hlz : ¬ (bs : Int) < (n : Int) := by omega
     have HI : Aside (Inc (Tie tg (ltOf cf)) dk 0 n) := by
      by_cases h0 : 0 < n
      ·exact (RS.out.last (by omega) h0).1
      ·exact Inc.short (by omega)
     go_wp2
     go_end0
     exact ⟨rfl, dk, S1.out, HI.out, P1.out⟩
end
end Go.Proofs.YtaneolfnnkppbaaGreatDoor
namespace Go.Proofs.YtaneolfnnkppbaaGreatDoor
open Go Go.Shelf Go.RowKit Go.ChangeShapes Go.Lib Go.Sort
set_option maxRecDepth 100000 in
set_option maxHeartbeats 8000000 in
theorem stableBigExc (blk cap : Nat) (d : Array (Exc × Hd)) (w : World) (hH : HoldsK encExc (Lay.n Exc) w blk 0 d) (hblk : blk < w.heap.size) (hsz : d.size < 1152921504606846976) :
  Calls Tryz.prog 43 #[.slice (some ⟨blk, 0, none⟩) d.size cap, .func (.func 44) #[] #[]] w fun e w' => e = .returned (.tuple #[]) ∧ ∃ m r os, w' = sortWorldK encExc (Lay.n Exc) w blk 0 m r os ∧ r.toList = sortS (ltOf (fun x y => cmpS x.1.name y.1.name)) d.toList := by
 have hO : SWO (ltOf fun x y : (Exc × Hd) × Nat => (fun x y => cmpS x.1.name y.1.name) x.1 y.1) := swo_of swo_slt (fun x => x.1.1.name) fun x y => cmpS_neg _ _
 have hn : d.zipIdx.size = d.size := by simp
 have HZ := zip_holds hH
 have h1 : ∀ x : (Exc × Hd) × Nat, ∀ v ∈ encExc x.1, v.oneCell' = true := fun x v hv => by simp [encExc] at hv; rcases hv with rfl | rfl | rfl <;> rfl
 have R : RowK (fun x : (Exc × Hd) × Nat => encExc x.1) (Lay.n Exc) w blk 0 d.zipIdx := ⟨fun _ => rfl, h1, HZ, hblk⟩
 have hcon := stabExc (Lay.n Exc) Tryz.sizeOf62 (fun x : (Exc × Hd) × Nat => encExc x.1) 44 #[] (enters_of Tryz.func44 (by kernel_rfl) rfl) (fun x y => (fun x y => cmpS x.1.name y.1.name) x.1 y.1) Prod.snd hO blk 0 cap d.size d.zipIdx w (fun _ _ _ _ x y => (lessExc x.1 y.1 _).mono fun _ _ h => h) hn hsz R (fun i hi => zip_snd d i hi) (SWK.start HZ)
  (fun a b dk w1 hd S hab hb => by
   have hc := AnyQ.insertionSortCmpFunc Tryz.insertionExc (Lay.n Exc) Tryz.isAgg62 Tryz.sizeOf62 (fun x : (Exc × Hd) × Nat => encExc x.1) (fun _ => rfl) h1 (fun x y => (fun x y => cmpS x.1.name y.1.name) x.1 y.1) 44 #[] blk 0 cap a b dk w1
    (enters_of Tryz.func44 (by kernel_rfl) rfl) (fun _ _ _ _ x y => (lessExc x.1 y.1 _).mono fun _ _ h => h) (S.holds hblk HZ (hd.trans hn.symm)) (S.lt hblk) hab (by omega) (by omega)
   rw [hd] at hc
   refine hc.mono ?_
   rintro e w' ⟨rfl, m, os, rfl⟩
   exact ⟨rfl, S.on hblk m _ os (insertionSort_holds hO dk a b hab (by omega)).1.1⟩)
 have q1 : decide ((20 : Int) ≤ 20) = true := rfl
 clear hH HZ R h1
 have HO := Lib.hid hO
 have HN := Lib.hid hn
 clear hO hn
 generalize hds : d.size = n at hcon hsz
 have HD := Lib.hid hds
 clear hds
 go_enter Tryz.func43, Tryz.ntmps43
 go_wp2_with fail
 refine hcon.mono ?_
 rintro e w1 ⟨rfl, d', S, hi, hp⟩
 rw [← HD.out] at hi hp
 have HF := Lib.hid (stab_end (α := Exc × Hd) (enc := encExc) (cf := fun x y => cmpS x.1.name y.1.name) HO.out S hi hp)
 clear S hi hp hcon
 go_wp2
 go_end0
 exact ⟨rfl, HF.out⟩
theorem stableAnyExc {B : Nat} {E : TypeId → Prop} {w : World} {v : Value} {xs : List Exc} (h : OwnL B E 62 w v xs) (hE : E 62) (hbig : xs.length < 1152921504606846976) :
  Calls Tryz.prog 43 #[v, .func (.func 44) #[] #[]] w fun e w' => e = .returned (.tuple #[]) ∧ OwnL B E 62 w' v (sortS (fun a b => slt a.name b.name) xs) ∧ Below B w w' ∧ Agree B (· = 62) w w' := by
 by_cases hne : xs = []
 ·subst hne
  obtain ⟨cs, -, hv⟩ := h.row
  obtain ⟨a, c, rfl⟩ : ∃ a c, v = .slice a 0 c := by
   rcases hv with ⟨rfl, -⟩ | ⟨g, cap, cur, rfl, -⟩
   ·exact ⟨_, _, rfl⟩
   ·exact ⟨_, _, rfl⟩
  refine (stableNilExc a c w).mono ?_
  rintro e w' ⟨rfl, rfl⟩
  exact ⟨rfl, h, Below.refl _ _, Agree.refl _ _ _⟩
 ·obtain ⟨g, cap, d, rfl, hg, hB, hd, hH, hpost⟩ := h.sorted hE encExc (fun _ => rfl) (by decide) ofExc hne
  have hds : d.size = xs.length := by rw [← hd]; simp
  refine (stableBigExc g cap d w hH hg (by omega)).mono ?_
  rintro e w' ⟨rfl, m, r, os, rfl, hl0⟩
  have hl : r.toList = sortS (fun a b => (fun a b => slt a.name b.name) a.1 b.1) d.toList := by
   rw [hl0]
   congr 1
   funext x y
   exact cmpS_neg _ _
  obtain ⟨p1, p2, p3⟩ := hpost r m os (by rw [hl]; exact sortS_perm _ _)
  have e3 : r.toList.map Prod.fst = sortS (fun a b => slt a.name b.name) xs := by
   rw [hl]
   have e4 := sortS_map Prod.fst (fun a b => slt a.name b.name) d.toList
   rw [hd] at e4
   exact e4
  rw [e3] at p1
  exact ⟨rfl, p1, p2, p3⟩
end Go.Proofs.YtaneolfnnkppbaaGreatDoor
