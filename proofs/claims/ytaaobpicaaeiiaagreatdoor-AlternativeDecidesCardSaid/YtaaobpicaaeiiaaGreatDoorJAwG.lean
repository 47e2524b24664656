/- The first test of the chapter of alternatives (printed by gen/awg.py). -/
import Derived.Test.YtaaobpicaaeiiaaGreatDoorJEntU
import Derived.Test.YtaaobpicaaeiiaaGreatDoorJAEU
import Derived.Test.YtaaobpicaaeiiaaGreatDoorJFrmU
import Derived.Test.YtaaobpicaaeiiaaGreatDoorJMeanU
import Derived.Test.YtaaobpicaaeiiaaGreatDoorJPairU
import Derived.Test.YtaaobpicaaeiiaaGreatDoorJFewA
import Derived.Test.YtaaobpicaaeiiaaGreatDoorJR33U
set_option linter.all false
namespace Go.Proofs.YtaaobpicaaeiiaaGreatDoor
open Go Go.RowKit Go.ChangeShapes Go.Sort Go.Lib

theorem rowT_two (w : World) {s t : Term} (s1 : s.license.size ≤ maxLen) (s2 : s.exception.size ≤ maxLen) (t1 : t.license.size ≤ maxLen) (t2 : t.exception.size ≤ maxLen) :
  RowT w.heap.size (w.alloc (.cells #[.string s.license, .string s.exception, .string t.license, .string t.exception] 60)) (.slice (some ⟨w.heap.size, 0, none⟩) 2 2) [s, t] := by
 refine ⟨⟨rfl, .inr ⟨w.heap.size, 2, #[.string s.license, .string s.exception, .string t.license, .string t.exception], rfl, Nat.le_refl _, World.alloc_heap_new w _, Nat.le_refl _, by decide, rfl, rfl⟩⟩, fun x hx => ?_⟩
 simp at hx
 rcases hx with rfl | rfl
 ·exact ⟨s1, s2⟩
 ·exact ⟨t1, t2⟩
theorem is_head {w : World} {a : Option Addr} {c : Nat} {s t : Term} (h : Is w (.slice a 2 c) [s, t]) : Is w (.slice a 1 c) [s] := by
 obtain ⟨b, d, e, h1, h2, h3⟩ := list_inv h
 cases e
 exact list_mk (show [s].length ≤ c by simp at h1 ⊢; omega) h2 fun i x hx => h3 i x (by match i, hx with | 0, hx => simpa using hx | i + 1, hx => simp at hx)
theorem g_sat1 (w : World) (v u : Value) (h : Is w v gM) (k : Is w u [uD, uA]) : Calls Tryz.prog 21 #[v, u] w fun e w' => e = .returned (.bool true) ∧ Below w.heap.size w w' := by
 have h := Satisfied_p w v u gM [uD, uA] h k
 rw [g_facts.1] at h; exact h
theorem g_sat2 (w : World) (v u : Value) (h : Is w v gM) (k : Is w u [uA]) : Calls Tryz.prog 21 #[v, u] w fun e w' => e = .returned (.bool false) ∧ Below w.heap.size w w' := by
 have h := Satisfied_p w v u gM [uA] h k
 rw [g_facts.2.1] at h; exact h
theorem g_check (w : World) (v : Value) (h : Is w v gM) : Calls Tryz.prog 17 #[v] w fun e w' => e = .returned (.int .i64 0) ∧ Below w.heap.size w w' := by
 have h := CheckA_p w v gM h
 rw [g_facts.2.2.1] at h; exact h
theorem g_cmp (w : World) (v u : Value) (h : Is w v [uA, uD]) (k : Is w u [uB, uD]) : Calls Tryz.prog 25 #[v, u] w fun e w' => e = .returned (.int .i64 (-1)) ∧ Grew w w' := by
 have h := Compare_p w v u [uA, uD] [uB, uD] h k
 rw [g_facts.2.2.2.1] at h; exact h
theorem g_con (w : World) (v u : Value) (h : Is w v [uA, uD]) (k : Is w u [uA]) : Calls Tryz.prog 23 #[v, u] w fun e w' => e = .returned (.bool true) ∧ Below w.heap.size w w' := by
 have h := Contains_p w v u [uA, uD] [uA] h k
 rw [g_facts.2.2.2.2] at h; exact h
set_option maxRecDepth 100000 in
set_option maxHeartbeats 8000000 in
theorem awakeG_p (w : World) (hg : Glob w) : Calls Tryz.prog 11 #[] w fun e w' => e = .returned (.bool true) ∧ Below w.heap.size w w' := by
 have HG := Lib.hid hg
 clear hg
 go_enter Tryz.func11, Tryz.ntmps11
 go_wp2_with fail
 refine (gParse w HG.out).mono ?_
 rintro e w1 ⟨vc, rfl, hc, hb1⟩
 obtain ⟨p0, m0, k0, p1, m1, k1, p2, m2, k2, p3, m3, k3, rfl⟩ := catBox hc
 have hba : Below w1.heap.size w1 (w1.alloc (.cells #[.slice p0 m0 k0, .slice p1 m1 k1, .slice p2 m2 k2, .slice p3 m3 k3] 27)) := (by repeat (first | exact zR _ _ | assumption | refine zN ?_ _ | refine zD ?_ | refine zA ?_ ?_ _ | refine zS ?_ ?_ _ | refine zT ?_ (zM (by assumption) ?_) | exact Nat.le_refl _ | (simp <;> omega) | omega))
 have d0 : (w1.alloc (.cells #[.slice p0 m0 k0, .slice p1 m1 k1, .slice p2 m2 k2, .slice p3 m3 k3] 27)).cell? ⟨w1.heap.size, 0, none⟩ = some (.slice p0 m0 k0) := by simp
 have d1 : (w1.alloc (.cells #[.slice p0 m0 k0, .slice p1 m1 k1, .slice p2 m2 k2, .slice p3 m3 k3] 27)).cell? ⟨w1.heap.size, 1, none⟩ = some (.slice p1 m1 k1) := by simp
 have d2 : (w1.alloc (.cells #[.slice p0 m0 k0, .slice p1 m1 k1, .slice p2 m2 k2, .slice p3 m3 k3] 27)).cell? ⟨w1.heap.size, 2, none⟩ = some (.slice p2 m2 k2) := by simp
 have d3 : (w1.alloc (.cells #[.slice p0 m0 k0, .slice p1 m1 k1, .slice p2 m2 k2, .slice p3 m3 k3] 27)).cell? ⟨w1.heap.size, 3, none⟩ = some (.slice p3 m3 k3) := by simp
 have HB2 : Hid (Below w.heap.size w (w1.alloc (.cells #[.slice p0 m0 k0, .slice p1 m1 k1, .slice p2 m2 k2, .slice p3 m3 k3] 27))) := hb1.trans (hba.mono hb1.size)
 have HC := Lib.hid (hc.mono hba)
 clear hb1 hba hc
 go_wp2_with fail
 generalize (w1.alloc (.cells #[.slice p0 m0 k0, .slice p1 m1 k1, .slice p2 m2 k2, .slice p3 m3 k3] 27)) = w2 at *
 generalize w1.heap.size = g1 at *
 refine (Parse33 w2).mono ?_
 rintro e w3 ⟨vx, rfl, hx, hb3⟩
 obtain ⟨q0, q1, q2, aq, K, k, rfl⟩ := expBox hx
 have hba : Below w3.heap.size w3 (w3.alloc (.cells #[.int .i64 q0, .string q1, .string q2, .slice aq K k] 30)) := (by repeat (first | exact zR _ _ | assumption | refine zN ?_ _ | refine zD ?_ | refine zA ?_ ?_ _ | refine zS ?_ ?_ _ | refine zT ?_ (zM (by assumption) ?_) | exact Nat.le_refl _ | (simp <;> omega) | omega))
 have e0 : (w3.alloc (.cells #[.int .i64 q0, .string q1, .string q2, .slice aq K k] 30)).cell? ⟨w3.heap.size, 0, none⟩ = some (.int .i64 q0) := by simp
 have e1 : (w3.alloc (.cells #[.int .i64 q0, .string q1, .string q2, .slice aq K k] 30)).cell? ⟨w3.heap.size, 1, none⟩ = some (.string q1) := by simp
 have e2 : (w3.alloc (.cells #[.int .i64 q0, .string q1, .string q2, .slice aq K k] 30)).cell? ⟨w3.heap.size, 2, none⟩ = some (.string q2) := by simp
 have e3 : (w3.alloc (.cells #[.int .i64 q0, .string q1, .string q2, .slice aq K k] 30)).cell? ⟨w3.heap.size, 3, none⟩ = some (.slice aq K k) := by simp
 have d0 := kept hba (kept hb3 d0)
 have d1 := kept hba (kept hb3 d1)
 have d2 := kept hba (kept hb3 d2)
 have d3 := kept hba (kept hb3 d3)
 have HB4 : Hid (Below w.heap.size w (w3.alloc (.cells #[.int .i64 q0, .string q1, .string q2, .slice aq K k] 30))) := HB2.out.trans ((hb3.trans (hba.mono hb3.size)).mono HB2.out.size)
 have HC := Lib.hid (HC.out.mono (hb3.trans (hba.mono hb3.size)))
 have HX := Lib.hid (hx.mono hba)
 clear hb3 hba hx
 go_wp2_with fail
 generalize (w3.alloc (.cells #[.int .i64 q0, .string q1, .string q2, .slice aq K k] 30)) = w4 at *
 generalize w3.heap.size = g2 at *
 have hcall := Of_p gC x33 (.inl pairsC) (by decide +kernel) w4 _ _ (HG.out.mono HB4.out) HC.out HX.out
 rw [g_of] at hcall
 refine hcall.mono ?_
 unfold MeO
 rintro e w5 ⟨v7, rfl, ho, hb5⟩
 have HL := Lib.hid ho.is
 obtain ⟨a7, c7, he7, -⟩ := list_inv HL.out
 simp only [gM, List.length_cons, List.length_nil, Nat.reduceAdd] at he7
 subst he7
 have HB5 : Hid (Below w.heap.size w w5) := HB4.out.trans (hb5.mono HB4.out.size)
 clear hcall ho hb5 HC HX HB4 d0 d1 d2 d3 e0 e1 e2 e3
 have hcall := Expr_p w5 _ gM HL.out
 rw [g_expr] at hcall
 go_wp2_with fail
 refine hcall.mono ?_
 rintro e w6 ⟨v9, rfl, hy, hb6⟩
 obtain ⟨q0, q1, q2, aq, K, k, rfl⟩ := expBox hy
 have hba : Below w6.heap.size w6 (w6.alloc (.cells #[.int .i64 q0, .string q1, .string q2, .slice aq K k] 30)) := (by repeat (first | exact zR _ _ | assumption | refine zN ?_ _ | refine zD ?_ | refine zA ?_ ?_ _ | refine zS ?_ ?_ _ | refine zT ?_ (zM (by assumption) ?_) | exact Nat.le_refl _ | (simp <;> omega) | omega))
 have e0 : (w6.alloc (.cells #[.int .i64 q0, .string q1, .string q2, .slice aq K k] 30)).cell? ⟨w6.heap.size, 0, none⟩ = some (.int .i64 q0) := by simp
 have e1 : (w6.alloc (.cells #[.int .i64 q0, .string q1, .string q2, .slice aq K k] 30)).cell? ⟨w6.heap.size, 1, none⟩ = some (.string q1) := by simp
 have e2 : (w6.alloc (.cells #[.int .i64 q0, .string q1, .string q2, .slice aq K k] 30)).cell? ⟨w6.heap.size, 2, none⟩ = some (.string q2) := by simp
 have e3 : (w6.alloc (.cells #[.int .i64 q0, .string q1, .string q2, .slice aq K k] 30)).cell? ⟨w6.heap.size, 3, none⟩ = some (.slice aq K k) := by simp
 have HB7 : Hid (Below w.heap.size w (w6.alloc (.cells #[.int .i64 q0, .string q1, .string q2, .slice aq K k] 30))) := HB5.out.trans ((hb6.trans (hba.mono hb6.size)).mono HB5.out.size)
 have HL := Lib.hid (HL.out.mono (hb6.trans (hba.mono hb6.size)))
 have HY := Lib.hid (hy.mono hba)
 clear hcall hb6 hba hy
 go_wp2_with fail
 generalize (w6.alloc (.cells #[.int .i64 q0, .string q1, .string q2, .slice aq K k] 30)) = w7 at *
 generalize w6.heap.size = g3 at *
 have hcall := FormatX_p w7 _ (orAll gM) HY.out g_form.2 g_form.1 (by rw [g_text]; decide)
 rw [g_text, g_tb] at hcall
 refine hcall.mono ?_
 rintro e w8 ⟨rfl, hb8⟩
 have HB8 : Hid (Below w.heap.size w w8) := HB7.out.trans (hb8.mono HB7.out.size)
 have HL := Lib.hid (HL.out.mono hb8)
 clear hcall hb8 HY HB7 e0 e1 e2 e3
 obtain ⟨hbb, hA, hD⟩ := box2 w8 #[.string ⟨#[97, 108, 100, 101, 114]⟩, .string ⟨#[]⟩] #[.string ⟨#[99, 101, 100, 97, 114]⟩, .string ⟨#[]⟩] 60 60
 have HA0 := Lib.hid (hA 0 _ rfl)
 have HA1 := Lib.hid (hA 1 _ rfl)
 have HD0 := Lib.hid (hD 0 _ rfl)
 have HD1 := Lib.hid (hD 1 _ rfl)
 have HB9 : Hid (Below w.heap.size w ((w8.alloc (.cells #[.string ⟨#[97, 108, 100, 101, 114]⟩, .string ⟨#[]⟩] 60)).alloc (.cells #[.string ⟨#[99, 101, 100, 97, 114]⟩, .string ⟨#[]⟩] 60))) := HB8.out.trans (hbb.mono HB8.out.size)
 have HL := Lib.hid (HL.out.mono hbb)
 clear hbb hA hD
 go_wp2_with fail
 generalize ((w8.alloc (.cells #[.string ⟨#[97, 108, 100, 101, 114]⟩, .string ⟨#[]⟩] 60)).alloc (.cells #[.string ⟨#[99, 101, 100, 97, 114]⟩, .string ⟨#[]⟩] 60)) = w9 at *
 generalize w8.heap.size = g4 at *
 obtain ⟨a7', c7', he7, hl7, hm7, hr7⟩ := list_inv HL.out
 cases he7
 obtain ⟨gl, ol, rfl, -, ax, cx, l0, hx1, hx2, hx3⟩ := list_at hr7 (show gM[0]? = some [uA, uD] from rfl)
 obtain ⟨gl', ol', hge, -, ay, cy, l1, hy1, hy2, hy3⟩ := list_at hr7 (show gM[1]? = some [uB, uD] from rfl)
 cases hge
 simp only [List.length_cons, List.length_nil, Nat.reduceAdd, Nat.add_zero, Nat.zero_add] at l0 l1
 have I0 : Hid (Is w9 (.slice ax 2 cx) [uA, uD]) := Lib.hid (list_mk hx1 hx2 hx3)
 have I1 : Hid (Is w9 (.slice ay 2 cy) [uB, uD]) := Lib.hid (list_mk hy1 hy2 hy3)
 have HL0 := Lib.hid l0
 have HL1 := Lib.hid l1
 have sA := cell_lt HA0.out
 have sD := cell_lt HD0.out
 have sL := cell_lt l0
 have hcx : (1 : Int) ≤ cx := by simp at hx1; omega
 clear hl7 hm7 hr7 hx1 hx2 hx3 hy1 hy2 hy3 l0 l1
 simp only [List.append_eq, List.cons_append, List.nil_append]
 refine wp_region_held_drew (S := (fun w' : World => Below w9.heap.size w9 w')) (by kernel_rfl) (by exact (by repeat (first | exact zR _ _ | assumption | refine zN ?_ _ | refine zD ?_ | refine zA ?_ ?_ _ | refine zS ?_ ?_ _ | refine zT ?_ (zM (by assumption) ?_) | exact Nat.le_refl _ | (simp <;> omega) | omega))) (fun hH0 => ?_)
 refine wpAnyH_take (i := 0) (oi := _) (v := ?_) rfl (by kernel_rfl) (by kernel_rfl) (by kernel_rfl) (fun _ _ _ h => h) (Or.inl ⟨by kernel_rfl, ?_⟩) hH0 ?_
 rotate_left
 ·intro w hSw; (try dsimp only at hSw); go_simp
  all_goals with_reducible rfl
 try simp only [tkS, Act.put]
 refine wpAnyH_take (i := 1) (oi := _) (v := ?_) rfl (by kernel_rfl) (by kernel_rfl) (by kernel_rfl) (fun _ _ _ h => h) (Or.inl ⟨by kernel_rfl, ?_⟩) hH0 ?_
 rotate_left
 ·intro w hSw; (try dsimp only at hSw); go_simp
  all_goals with_reducible rfl
 try simp only [tkS, Act.put]
 refine wpAnyH_take (i := 2) (oi := _) (v := ?_) rfl (by kernel_rfl) (by kernel_rfl) (by kernel_rfl) (fun _ _ _ h => h) (Or.inl ⟨by kernel_rfl, ?_⟩) hH0 ?_
 rotate_left
 ·intro w hSw; (try dsimp only at hSw); go_simp
  all_goals with_reducible rfl
 try simp only [tkS, Act.put]
 refine wpAnyH_take (i := 3) (oi := _) (v := ?_) rfl (by kernel_rfl) (by kernel_rfl) (by kernel_rfl) (fun _ _ _ h => h) (Or.inl ⟨by kernel_rfl, ?_⟩) hH0 ?_
 rotate_left
 ·intro w hSw; (try dsimp only at hSw); go_simp
  all_goals with_reducible rfl
 try simp only [tkS, Act.put]
 refine wpAnyH_take (i := 4) (oi := _) (v := ?_) rfl (by kernel_rfl) (by kernel_rfl) (by kernel_rfl) (fun _ _ _ h => h) (Or.inl ⟨by kernel_rfl, ?_⟩) hH0 ?_
 rotate_left
 ·intro w hSw; (try dsimp only at hSw); go_simp
  all_goals with_reducible rfl
 try simp only [tkS, Act.put]
 refine wpAnyH_take (i := 5) (oi := _) (v := ?_) rfl (by kernel_rfl) (by kernel_rfl) (by kernel_rfl) (fun _ _ _ h => h) (Or.inl ⟨by kernel_rfl, ?_⟩) hH0 ?_
 rotate_left
 ·intro w hSw; (try dsimp only at hSw); go_simp
  all_goals with_reducible rfl
 try simp only [tkS, Act.put]
 refine wpAnyH_take (i := 6) (oi := _) (v := ?_) rfl (by kernel_rfl) (by kernel_rfl) (by kernel_rfl) (fun _ _ _ h => h) (Or.inl ⟨by kernel_rfl, ?_⟩) hH0 ?_
 rotate_left
 ·intro w hSw; (try dsimp only at hSw); go_simp
  all_goals with_reducible rfl
 try simp only [tkS, Act.put]
 refine wpAnyH_take (i := 7) (oi := _) (v := ?_) rfl (by kernel_rfl) (by kernel_rfl) (by kernel_rfl) (fun _ _ _ h => h) (Or.inl ⟨by kernel_rfl, ?_⟩) hH0 ?_
 rotate_left
 ·intro w hSw; (try dsimp only at hSw); go_simp
  all_goals with_reducible rfl
 try simp only [tkS, Act.put]
 refine wpAnyH_take (i := 8) (oi := _) (v := ?_) rfl (by kernel_rfl) (by kernel_rfl) (by kernel_rfl) (fun _ _ _ h => h) (Or.inl ⟨by kernel_rfl, ?_⟩) hH0 ?_
 rotate_left
 ·intro w hSw; (try dsimp only at hSw); go_simp
  all_goals with_reducible rfl
 try simp only [tkS, Act.put]
 refine wpAnyH_take (i := 9) (oi := _) (v := ?_) rfl (by kernel_rfl) (by kernel_rfl) (by kernel_rfl) (fun _ _ _ h => h) (Or.inl ⟨by kernel_rfl, ?_⟩) hH0 ?_
 rotate_left
 ·intro w hSw; (try dsimp only at hSw); go_simp
  all_goals with_reducible rfl
 try simp only [tkS, Act.put]
 refine wpAnyH_take (i := 10) (oi := _) (v := ?_) rfl (by kernel_rfl) (by kernel_rfl) (by kernel_rfl) (fun _ _ _ h => h) (Or.inl ⟨by kernel_rfl, ?_⟩) hH0 ?_
 rotate_left
 ·intro w hSw; (try dsimp only at hSw); go_simp
  all_goals with_reducible rfl
 try simp only [tkS, Act.put]
 refine wpAnyH_take (i := 11) (oi := _) (v := ?_) rfl (by kernel_rfl) (by kernel_rfl) (by kernel_rfl) (fun _ _ _ h => h) (Or.inl ⟨by kernel_rfl, ?_⟩) hH0 ?_
 rotate_left
 ·intro w hSw; (try dsimp only at hSw); go_simp
  all_goals with_reducible rfl
 try simp only [tkS, Act.put]
 refine wpAnyH_take (i := 12) (oi := _) (v := ?_) rfl (by kernel_rfl) (by kernel_rfl) (by kernel_rfl) (fun _ _ _ h => h) (Or.inl ⟨by kernel_rfl, ?_⟩) hH0 ?_
 rotate_left
 ·intro w hSw; (try dsimp only at hSw); go_simp
  all_goals with_reducible rfl
 try simp only [tkS, Act.put]
 refine wpAnyH_take (i := 13) (oi := _) (v := ?_) rfl (by kernel_rfl) (by kernel_rfl) (by kernel_rfl) (fun _ _ _ h => h) (Or.inl ⟨by kernel_rfl, ?_⟩) hH0 ?_
 rotate_left
 ·intro w hSw; (try dsimp only at hSw); go_simp
  all_goals with_reducible rfl
 try simp only [tkS, Act.put]
 refine wpAnyH_take (i := 14) (oi := _) (v := ?_) rfl (by kernel_rfl) (by kernel_rfl) (by kernel_rfl) (fun _ _ _ h => h) (Or.inl ⟨by kernel_rfl, ?_⟩) hH0 ?_
 rotate_left
 ·intro w hSw; (try dsimp only at hSw); go_simp
  all_goals with_reducible rfl
 try simp only [tkS, Act.put]
 refine wpAnyH_take (i := 15) (oi := _) (v := ?_) rfl (by kernel_rfl) (by kernel_rfl) (by kernel_rfl) (fun _ _ _ h => h) (Or.inl ⟨by kernel_rfl, ?_⟩) hH0 ?_
 rotate_left
 ·intro w hSw; (try dsimp only at hSw); go_simp
  all_goals with_reducible rfl
 try simp only [tkS, Act.put]
 refine wpAnyH_take (i := 16) (oi := _) (v := ?_) rfl (by kernel_rfl) (by kernel_rfl) (by kernel_rfl) (fun _ _ _ h => h) (Or.inl ⟨by kernel_rfl, ?_⟩) hH0 ?_
 rotate_left
 ·intro w hSw; (try dsimp only at hSw); go_simp
  all_goals with_reducible rfl
 try simp only [tkS, Act.put]
 refine wpAnyH_take (i := 17) (oi := _) (v := ?_) rfl (by kernel_rfl) (by kernel_rfl) (by kernel_rfl) (fun _ _ _ h => h) (Or.inl ⟨by kernel_rfl, ?_⟩) hH0 ?_
 rotate_left
 ·intro w hSw; (try dsimp only at hSw); have a0 := kept hSw HL0.out; have a1 := kept hSw HL1.out; go_simp
  all_goals with_reducible rfl
 try simp only [tkS, Act.put]
 refine wpAnyH_take (i := 18) (oi := _) (v := ?_) rfl (by kernel_rfl) (by kernel_rfl) (by kernel_rfl) (fun _ _ _ h => h) (Or.inl ⟨by kernel_rfl, ?_⟩) hH0 ?_
 rotate_left
 ·intro w hSw; (try dsimp only at hSw); have a0 := kept hSw HL0.out; have a1 := kept hSw HL1.out; go_simp
  all_goals with_reducible rfl
 try simp only [tkS, Act.put]
 refine wpAnyH_take (i := 19) (oi := _) (v := ?_) rfl (by kernel_rfl) (by kernel_rfl) (by kernel_rfl) (fun _ _ _ h => h) (Or.inl ⟨by kernel_rfl, ?_⟩) hH0 ?_
 rotate_left
 ·intro w hSw; (try dsimp only at hSw); have a0 := kept hSw HA0.out; have a1 := kept hSw HA1.out; go_simp
  all_goals with_reducible rfl
 try simp only [tkS, Act.put]
 refine wpAnyH_take (i := 20) (oi := _) (v := ?_) rfl (by kernel_rfl) (by kernel_rfl) (by kernel_rfl) (fun _ _ _ h => h) (Or.inl ⟨by kernel_rfl, ?_⟩) hH0 ?_
 rotate_left
 ·intro w hSw; (try dsimp only at hSw); have a0 := kept hSw HD0.out; have a1 := kept hSw HD1.out; go_simp
  all_goals with_reducible rfl
 try simp only [tkS, Act.put]
 refine wpAnyH_ready (rs := [21]) (by kernel_rfl) (by simp) ?_
 refine AllReadyH.cons (o := _) rfl (fun K hK => ?_) AllReadyH.nil
 go_simp
 go_wp2_with fail
 refine hK.out _ _ ?_ (fun hH1 => ?_)
 ·exact (by repeat (first | exact zR _ _ | assumption | refine zN ?_ _ | refine zD ?_ | refine zA ?_ ?_ _ | refine zS ?_ ?_ _ | refine zT ?_ (zM (by assumption) ?_) | exact Nat.le_refl _ | (simp <;> omega) | omega))
 try simp only [tkS, Act.put]
 clear hK K
 have hT : Is (w9.alloc (.cells #[.string ⟨#[97, 108, 100, 101, 114]⟩, .string ⟨#[]⟩, .string ⟨#[99, 101, 100, 97, 114]⟩, .string ⟨#[]⟩] 60)).drew (.slice (some ⟨w9.heap.size, 0, none⟩) 2 2) [uA, uD] := (rowT_two w9 (s := uA) (t := uD) (by decide) (by decide) (by decide) (by decide)).is.mono (by repeat (first | exact zR _ _ | assumption | refine zN ?_ _ | refine zD ?_ | refine zA ?_ ?_ _ | refine zS ?_ ?_ _ | refine zT ?_ (zM (by assumption) ?_) | exact Nat.le_refl _ | (simp <;> omega) | omega))
 have hSw10 : w9.heap.size ≤ (w9.alloc (.cells #[.string ⟨#[97, 108, 100, 101, 114]⟩, .string ⟨#[]⟩, .string ⟨#[99, 101, 100, 97, 114]⟩, .string ⟨#[]⟩] 60)).drew.heap.size := (show Below w9.heap.size w9 (w9.alloc (.cells #[.string ⟨#[97, 108, 100, 101, 114]⟩, .string ⟨#[]⟩, .string ⟨#[99, 101, 100, 97, 114]⟩, .string ⟨#[]⟩] 60)).drew from (by repeat (first | exact zR _ _ | assumption | refine zN ?_ _ | refine zD ?_ | refine zA ?_ ?_ _ | refine zS ?_ ?_ _ | refine zT ?_ (zM (by assumption) ?_) | exact Nat.le_refl _ | (simp <;> omega) | omega))).size
 have HT := Lib.hid hT
 clear hT
 generalize (w9.alloc (.cells #[.string ⟨#[97, 108, 100, 101, 114]⟩, .string ⟨#[]⟩, .string ⟨#[99, 101, 100, 97, 114]⟩, .string ⟨#[]⟩] 60)).drew = w10 at *
 refine wpAnyH_ready (rs := [22]) (by kernel_rfl) (by simp) ?_
 refine AllReadyH.cons (o := _) rfl (fun K hK => ?_) AllReadyH.nil
 go_simp
 go_at_call 45
 refine (EqualTerm_p _ _ _ [uA, uD] [uA, uD] (I0.out.mono hH1) HT.out).mono ?_
 rintro e w11 ⟨rfl, hbw11⟩
 rw [decide_eq_true (rfl : [uA, uD] = [uA, uD])]
 go_wp2_with fail
 refine hK.out _ _ ?_ (fun hH2 => ?_)
 ·exact hH1.trans ((show Below w10.heap.size w10 _ from (by repeat (first | exact zR _ _ | assumption | refine zN ?_ _ | refine zD ?_ | refine zA ?_ ?_ _ | refine zS ?_ ?_ _ | refine zT ?_ (zM (by assumption) ?_) | exact Nat.le_refl _ | (simp <;> omega) | omega))).mono hH1.size)
 try simp only [tkS, Act.put]
 clear hK K
 clear HT
 refine wpAnyH_take (i := 23) (oi := _) (v := ?_) rfl (by kernel_rfl) (by kernel_rfl) (by kernel_rfl) (fun _ _ _ h => h) (Or.inl ⟨by kernel_rfl, ?_⟩) hH2 ?_
 rotate_left
 ·intro w hSw; (try dsimp only at hSw); go_simp
  all_goals with_reducible rfl
 try simp only [tkS, Act.put]
 refine wpAnyH_take (i := 24) (oi := _) (v := ?_) rfl (by kernel_rfl) (by kernel_rfl) (by kernel_rfl) (fun _ _ _ h => h) (Or.inl ⟨by kernel_rfl, ?_⟩) hH2 ?_
 rotate_left
 ·intro w hSw; (try dsimp only at hSw); go_simp
  all_goals with_reducible rfl
 try simp only [tkS, Act.put]
 refine wpAnyH_take (i := 25) (oi := _) (v := ?_) rfl (by kernel_rfl) (by kernel_rfl) (by kernel_rfl) (fun _ _ _ h => h) (Or.inl ⟨by kernel_rfl, ?_⟩) hH2 ?_
 rotate_left
 ·intro w hSw; (try dsimp only at hSw); go_simp
  all_goals with_reducible rfl
 try simp only [tkS, Act.put]
 refine wpAnyH_take (i := 26) (oi := _) (v := ?_) rfl (by kernel_rfl) (by kernel_rfl) (by kernel_rfl) (fun _ _ _ h => h) (Or.inl ⟨by kernel_rfl, ?_⟩) hH2 ?_
 rotate_left
 ·intro w hSw; (try dsimp only at hSw); go_simp
  all_goals with_reducible rfl
 try simp only [tkS, Act.put]
 refine wpAnyH_take (i := 27) (oi := _) (v := ?_) rfl (by kernel_rfl) (by kernel_rfl) (by kernel_rfl) (fun _ _ _ h => h) (Or.inl ⟨by kernel_rfl, ?_⟩) hH2 ?_
 rotate_left
 ·intro w hSw; (try dsimp only at hSw); go_simp
  all_goals with_reducible rfl
 try simp only [tkS, Act.put]
 refine wpAnyH_take (i := 28) (oi := _) (v := ?_) rfl (by kernel_rfl) (by kernel_rfl) (by kernel_rfl) (fun _ _ _ h => h) (Or.inl ⟨by kernel_rfl, ?_⟩) hH2 ?_
 rotate_left
 ·intro w hSw; (try dsimp only at hSw); go_simp
  all_goals with_reducible rfl
 try simp only [tkS, Act.put]
 refine wpAnyH_take (i := 29) (oi := _) (v := ?_) rfl (by kernel_rfl) (by kernel_rfl) (by kernel_rfl) (fun _ _ _ h => h) (Or.inl ⟨by kernel_rfl, ?_⟩) hH2 ?_
 rotate_left
 ·intro w hSw; (try dsimp only at hSw); go_simp
  all_goals with_reducible rfl
 try simp only [tkS, Act.put]
 refine wpAnyH_take (i := 30) (oi := _) (v := ?_) rfl (by kernel_rfl) (by kernel_rfl) (by kernel_rfl) (fun _ _ _ h => h) (Or.inl ⟨by kernel_rfl, ?_⟩) hH2 ?_
 rotate_left
 ·intro w hSw; (try dsimp only at hSw); have a0 := kept hSw HD0.out; have a1 := kept hSw HD1.out; go_simp
  all_goals with_reducible rfl
 try simp only [tkS, Act.put]
 refine wpAnyH_take (i := 31) (oi := _) (v := ?_) rfl (by kernel_rfl) (by kernel_rfl) (by kernel_rfl) (fun _ _ _ h => h) (Or.inl ⟨by kernel_rfl, ?_⟩) hH2 ?_
 rotate_left
 ·intro w hSw; (try dsimp only at hSw); have a0 := kept hSw HA0.out; have a1 := kept hSw HA1.out; go_simp
  all_goals with_reducible rfl
 try simp only [tkS, Act.put]
 refine wpAnyH_ready (rs := [32]) (by kernel_rfl) (by simp) ?_
 refine AllReadyH.cons (o := _) rfl (fun K hK => ?_) AllReadyH.nil
 go_simp
 go_wp2_with fail
 refine hK.out _ _ ?_ (fun hH3 => ?_)
 ·exact hH2.alloc hH2.size _
 try simp only [tkS, Act.put]
 clear hK K
 have hT : Is (w11.alloc (.cells #[.string ⟨#[99, 101, 100, 97, 114]⟩, .string ⟨#[]⟩, .string ⟨#[97, 108, 100, 101, 114]⟩, .string ⟨#[]⟩] 60)) (.slice (some ⟨w11.heap.size, 0, none⟩) 2 2) [uD, uA] := (rowT_two w11 (s := uD) (t := uA) (by decide) (by decide) (by decide) (by decide)).is.mono (by repeat (first | exact zR _ _ | assumption | refine zN ?_ _ | refine zD ?_ | refine zA ?_ ?_ _ | refine zS ?_ ?_ _ | refine zT ?_ (zM (by assumption) ?_) | exact Nat.le_refl _ | (simp <;> omega) | omega))
 have hSw12 : w11.heap.size ≤ (w11.alloc (.cells #[.string ⟨#[99, 101, 100, 97, 114]⟩, .string ⟨#[]⟩, .string ⟨#[97, 108, 100, 101, 114]⟩, .string ⟨#[]⟩] 60)).heap.size := (show Below w11.heap.size w11 (w11.alloc (.cells #[.string ⟨#[99, 101, 100, 97, 114]⟩, .string ⟨#[]⟩, .string ⟨#[97, 108, 100, 101, 114]⟩, .string ⟨#[]⟩] 60)) from (by repeat (first | exact zR _ _ | assumption | refine zN ?_ _ | refine zD ?_ | refine zA ?_ ?_ _ | refine zS ?_ ?_ _ | refine zT ?_ (zM (by assumption) ?_) | exact Nat.le_refl _ | (simp <;> omega) | omega))).size
 have HT := Lib.hid hT
 clear hT
 generalize (w11.alloc (.cells #[.string ⟨#[99, 101, 100, 97, 114]⟩, .string ⟨#[]⟩, .string ⟨#[97, 108, 100, 101, 114]⟩, .string ⟨#[]⟩] 60)) = w12 at *
 refine wpAnyH_ready (rs := [33]) (by kernel_rfl) (by simp) ?_
 refine AllReadyH.cons (o := _) rfl (fun K hK => ?_) AllReadyH.nil
 go_simp
 go_at_call 21
 refine (g_sat1 _ _ _ (HL.out.mono hH3) HT.out).mono ?_
 rintro e w13 ⟨rfl, hbw13⟩
 go_wp2_with fail
 refine hK.out _ _ ?_ (fun hH4 => ?_)
 ·exact hH3.trans ((show Below w12.heap.size w12 _ from (by repeat (first | exact zR _ _ | assumption | refine zN ?_ _ | refine zD ?_ | refine zA ?_ ?_ _ | refine zS ?_ ?_ _ | refine zT ?_ (zM (by assumption) ?_) | exact Nat.le_refl _ | (simp <;> omega) | omega))).mono hH3.size)
 try simp only [tkS, Act.put]
 clear hK K
 clear HT
 refine wpAnyH_take (i := 34) (oi := _) (v := ?_) rfl (by kernel_rfl) (by kernel_rfl) (by kernel_rfl) (fun _ _ _ h => h) (Or.inl ⟨by kernel_rfl, ?_⟩) hH4 ?_
 rotate_left
 ·intro w hSw; (try dsimp only at hSw); go_simp
  all_goals with_reducible rfl
 try simp only [tkS, Act.put]
 refine wpAnyH_take (i := 35) (oi := _) (v := ?_) rfl (by kernel_rfl) (by kernel_rfl) (by kernel_rfl) (fun _ _ _ h => h) (Or.inl ⟨by kernel_rfl, ?_⟩) hH4 ?_
 rotate_left
 ·intro w hSw; (try dsimp only at hSw); go_simp
  all_goals with_reducible rfl
 try simp only [tkS, Act.put]
 refine wpAnyH_take (i := 36) (oi := _) (v := ?_) rfl (by kernel_rfl) (by kernel_rfl) (by kernel_rfl) (fun _ _ _ h => h) (Or.inl ⟨by kernel_rfl, ?_⟩) hH4 ?_
 rotate_left
 ·intro w hSw; (try dsimp only at hSw); go_simp
  all_goals with_reducible rfl
 try simp only [tkS, Act.put]
 refine wpAnyH_take (i := 37) (oi := _) (v := ?_) rfl (by kernel_rfl) (by kernel_rfl) (by kernel_rfl) (fun _ _ _ h => h) (Or.inl ⟨by kernel_rfl, ?_⟩) hH4 ?_
 rotate_left
 ·intro w hSw; (try dsimp only at hSw); have a0 := kept hSw HA0.out; have a1 := kept hSw HA1.out; go_simp
  all_goals with_reducible rfl
 try simp only [tkS, Act.put]
 refine wpAnyH_ready (rs := [38]) (by kernel_rfl) (by simp) ?_
 refine AllReadyH.cons (o := _) rfl (fun K hK => ?_) AllReadyH.nil
 go_simp
 go_wp2_with fail
 refine hK.out _ _ ?_ (fun hH5 => ?_)
 ·exact hH4.alloc hH4.size _
 try simp only [tkS, Act.put]
 clear hK K
 have hT : Is (w13.alloc (.cells #[.string ⟨#[97, 108, 100, 101, 114]⟩, .string ⟨#[]⟩] 60)) (.slice (some ⟨w13.heap.size, 0, none⟩) 1 1) [uA] := (rowT_new w13 (t := uA) (by decide) (by decide)).is.mono (by repeat (first | exact zR _ _ | assumption | refine zN ?_ _ | refine zD ?_ | refine zA ?_ ?_ _ | refine zS ?_ ?_ _ | refine zT ?_ (zM (by assumption) ?_) | exact Nat.le_refl _ | (simp <;> omega) | omega))
 have hSw14 : w13.heap.size ≤ (w13.alloc (.cells #[.string ⟨#[97, 108, 100, 101, 114]⟩, .string ⟨#[]⟩] 60)).heap.size := (show Below w13.heap.size w13 (w13.alloc (.cells #[.string ⟨#[97, 108, 100, 101, 114]⟩, .string ⟨#[]⟩] 60)) from (by repeat (first | exact zR _ _ | assumption | refine zN ?_ _ | refine zD ?_ | refine zA ?_ ?_ _ | refine zS ?_ ?_ _ | refine zT ?_ (zM (by assumption) ?_) | exact Nat.le_refl _ | (simp <;> omega) | omega))).size
 have HT := Lib.hid hT
 clear hT
 generalize (w13.alloc (.cells #[.string ⟨#[97, 108, 100, 101, 114]⟩, .string ⟨#[]⟩] 60)) = w14 at *
 refine wpAnyH_ready (rs := [39]) (by kernel_rfl) (by simp) ?_
 refine AllReadyH.cons (o := _) rfl (fun K hK => ?_) AllReadyH.nil
 go_simp
 go_at_call 21
 refine (g_sat2 _ _ _ (HL.out.mono hH5) HT.out).mono ?_
 rintro e w15 ⟨rfl, hbw15⟩
 go_wp2_with fail
 refine hK.out _ _ ?_ (fun hH6 => ?_)
 ·exact hH5.trans ((show Below w14.heap.size w14 _ from (by repeat (first | exact zR _ _ | assumption | refine zN ?_ _ | refine zD ?_ | refine zA ?_ ?_ _ | refine zS ?_ ?_ _ | refine zT ?_ (zM (by assumption) ?_) | exact Nat.le_refl _ | (simp <;> omega) | omega))).mono hH5.size)
 try simp only [tkS, Act.put]
 clear hK K
 clear HT
 refine wpAnyH_take (i := 40) (oi := _) (v := ?_) rfl (by kernel_rfl) (by kernel_rfl) (by kernel_rfl) (fun _ _ _ h => h) (Or.inl ⟨by kernel_rfl, ?_⟩) hH6 ?_
 rotate_left
 ·intro w hSw; (try dsimp only at hSw); go_simp
  all_goals with_reducible rfl
 try simp only [tkS, Act.put]
 refine wpAnyH_take (i := 41) (oi := _) (v := ?_) rfl (by kernel_rfl) (by kernel_rfl) (by kernel_rfl) (fun _ _ _ h => h) (Or.inl ⟨by kernel_rfl, ?_⟩) hH6 ?_
 rotate_left
 ·intro w hSw; (try dsimp only at hSw); go_simp
  all_goals with_reducible rfl
 try simp only [tkS, Act.put]
 refine wpAnyH_take (i := 42) (oi := _) (v := ?_) rfl (by kernel_rfl) (by kernel_rfl) (by kernel_rfl) (fun _ _ _ h => h) (Or.inl ⟨by kernel_rfl, ?_⟩) hH6 ?_
 rotate_left
 ·intro w hSw; (try dsimp only at hSw); go_simp
  all_goals with_reducible rfl
 try simp only [tkS, Act.put]
 refine wpAnyH_take (i := 43) (oi := _) (v := ?_) rfl (by kernel_rfl) (by kernel_rfl) (by kernel_rfl) (fun _ _ _ h => h) (Or.inl ⟨by kernel_rfl, ?_⟩) hH6 ?_
 rotate_left
 ·intro w hSw; (try dsimp only at hSw); go_simp
  all_goals with_reducible rfl
 try simp only [tkS, Act.put]
 refine wpAnyH_ready (rs := [44]) (by kernel_rfl) (by simp) ?_
 refine AllReadyH.cons (o := _) rfl (fun K hK => ?_) AllReadyH.nil
 go_simp
 go_at_call 17
 refine (g_check _ _ (HL.out.mono hH6)).mono ?_
 rintro e w16 ⟨rfl, hbw16⟩
 go_wp2_with fail
 refine hK.out _ _ ?_ (fun hH7 => ?_)
 ·exact hH6.trans ((show Below w15.heap.size w15 _ from (by repeat (first | exact zR _ _ | assumption | refine zN ?_ _ | refine zD ?_ | refine zA ?_ ?_ _ | refine zS ?_ ?_ _ | refine zT ?_ (zM (by assumption) ?_) | exact Nat.le_refl _ | (simp <;> omega) | omega))).mono hH6.size)
 try simp only [tkS, Act.put]
 clear hK K
 refine wpAnyH_take (i := 45) (oi := _) (v := ?_) rfl (by kernel_rfl) (by kernel_rfl) (by kernel_rfl) (fun _ _ _ h => h) (Or.inl ⟨by kernel_rfl, ?_⟩) hH7 ?_
 rotate_left
 ·intro w hSw; (try dsimp only at hSw); go_simp
  all_goals with_reducible rfl
 try simp only [tkS, Act.put]
 refine wpAnyH_take (i := 46) (oi := _) (v := ?_) rfl (by kernel_rfl) (by kernel_rfl) (by kernel_rfl) (fun _ _ _ h => h) (Or.inl ⟨by kernel_rfl, ?_⟩) hH7 ?_
 rotate_left
 ·intro w hSw; (try dsimp only at hSw); go_simp
  all_goals with_reducible rfl
 try simp only [tkS, Act.put]
 refine wpAnyH_take (i := 47) (oi := _) (v := ?_) rfl (by kernel_rfl) (by kernel_rfl) (by kernel_rfl) (fun _ _ _ h => h) (Or.inl ⟨by kernel_rfl, ?_⟩) hH7 ?_
 rotate_left
 ·intro w hSw; (try dsimp only at hSw); go_simp
  all_goals with_reducible rfl
 try simp only [tkS, Act.put]
 refine wpAnyH_take (i := 48) (oi := _) (v := ?_) rfl (by kernel_rfl) (by kernel_rfl) (by kernel_rfl) (fun _ _ _ h => h) (Or.inl ⟨by kernel_rfl, ?_⟩) hH7 ?_
 rotate_left
 ·intro w hSw; (try dsimp only at hSw); go_simp
  all_goals with_reducible rfl
 try simp only [tkS, Act.put]
 refine wpAnyH_take (i := 49) (oi := _) (v := ?_) rfl (by kernel_rfl) (by kernel_rfl) (by kernel_rfl) (fun _ _ _ h => h) (Or.inl ⟨by kernel_rfl, ?_⟩) hH7 ?_
 rotate_left
 ·intro w hSw; (try dsimp only at hSw); have a0 := kept hSw HL0.out; have a1 := kept hSw HL1.out; go_simp
  all_goals with_reducible rfl
 try simp only [tkS, Act.put]
 refine wpAnyH_take (i := 50) (oi := _) (v := ?_) rfl (by kernel_rfl) (by kernel_rfl) (by kernel_rfl) (fun _ _ _ h => h) (Or.inl ⟨by kernel_rfl, ?_⟩) hH7 ?_
 rotate_left
 ·intro w hSw; (try dsimp only at hSw); have a0 := kept hSw HL0.out; have a1 := kept hSw HL1.out; go_simp
  all_goals with_reducible rfl
 try simp only [tkS, Act.put]
 refine wpAnyH_take (i := 51) (oi := _) (v := ?_) rfl (by kernel_rfl) (by kernel_rfl) (by kernel_rfl) (fun _ _ _ h => h) (Or.inl ⟨by kernel_rfl, ?_⟩) hH7 ?_
 rotate_left
 ·intro w hSw; (try dsimp only at hSw); go_simp
  all_goals with_reducible rfl
 try simp only [tkS, Act.put]
 refine wpAnyH_take (i := 52) (oi := _) (v := ?_) rfl (by kernel_rfl) (by kernel_rfl) (by kernel_rfl) (fun _ _ _ h => h) (Or.inl ⟨by kernel_rfl, ?_⟩) hH7 ?_
 rotate_left
 ·intro w hSw; (try dsimp only at hSw); have a0 := kept hSw HL0.out; have a1 := kept hSw HL1.out; go_simp
  all_goals with_reducible rfl
 try simp only [tkS, Act.put]
 refine wpAnyH_take (i := 53) (oi := _) (v := ?_) rfl (by kernel_rfl) (by kernel_rfl) (by kernel_rfl) (fun _ _ _ h => h) (Or.inl ⟨by kernel_rfl, ?_⟩) hH7 ?_
 rotate_left
 ·intro w hSw; (try dsimp only at hSw); have a0 := kept hSw HL0.out; have a1 := kept hSw HL1.out; go_simp
  all_goals with_reducible rfl
 try simp only [tkS, Act.put]
 refine wpAnyH_ready (rs := [54]) (by kernel_rfl) (by simp) ?_
 refine AllReadyH.cons (o := _) rfl (fun K hK => ?_) AllReadyH.nil
 go_simp
 go_at_call 25
 refine (g_cmp _ _ _ (I0.out.mono hH7) (I1.out.mono hH7)).mono ?_
 rintro e w17 ⟨rfl, hbg⟩
 have hbg' := hbg.below
 go_wp2_with fail
 refine hK.out _ _ ?_ (fun hH8 => ?_)
 ·exact hH7.trans (hbg'.mono hH7.size)
 try simp only [tkS, Act.put]
 clear hK K
 refine wpAnyH_take (i := 55) (oi := _) (v := ?_) rfl (by kernel_rfl) (by kernel_rfl) (by kernel_rfl) (fun _ _ _ h => h) (Or.inl ⟨by kernel_rfl, ?_⟩) hH8 ?_
 rotate_left
 ·intro w hSw; (try dsimp only at hSw); go_simp
  all_goals with_reducible rfl
 try simp only [tkS, Act.put]
 refine wpAnyH_take (i := 56) (oi := _) (v := ?_) rfl (by kernel_rfl) (by kernel_rfl) (by kernel_rfl) (fun _ _ _ h => h) (Or.inl ⟨by kernel_rfl, ?_⟩) hH8 ?_
 rotate_left
 ·intro w hSw; (try dsimp only at hSw); go_simp
  all_goals with_reducible rfl
 try simp only [tkS, Act.put]
 refine wpAnyH_take (i := 57) (oi := _) (v := ?_) rfl (by kernel_rfl) (by kernel_rfl) (by kernel_rfl) (fun _ _ _ h => h) (Or.inl ⟨by kernel_rfl, ?_⟩) hH8 ?_
 rotate_left
 ·intro w hSw; (try dsimp only at hSw); go_simp
  all_goals with_reducible rfl
 try simp only [tkS, Act.put]
 refine wpAnyH_take (i := 58) (oi := _) (v := ?_) rfl (by kernel_rfl) (by kernel_rfl) (by kernel_rfl) (fun _ _ _ h => h) (Or.inl ⟨by kernel_rfl, ?_⟩) hH8 ?_
 rotate_left
 ·intro w hSw; (try dsimp only at hSw); go_simp
  all_goals with_reducible rfl
 try simp only [tkS, Act.put]
 refine wpAnyH_take (i := 59) (oi := _) (v := ?_) rfl (by kernel_rfl) (by kernel_rfl) (by kernel_rfl) (fun _ _ _ h => h) (Or.inl ⟨by kernel_rfl, ?_⟩) hH8 ?_
 rotate_left
 ·intro w hSw; (try dsimp only at hSw); have a0 := kept hSw HL0.out; have a1 := kept hSw HL1.out; go_simp
  all_goals with_reducible rfl
 try simp only [tkS, Act.put]
 refine wpAnyH_take (i := 60) (oi := _) (v := ?_) rfl (by kernel_rfl) (by kernel_rfl) (by kernel_rfl) (fun _ _ _ h => h) (Or.inl ⟨by kernel_rfl, ?_⟩) hH8 ?_
 rotate_left
 ·intro w hSw; (try dsimp only at hSw); have a0 := kept hSw HL0.out; have a1 := kept hSw HL1.out; go_simp
  all_goals with_reducible rfl
 try simp only [tkS, Act.put]
 refine wpAnyH_take (i := 61) (oi := _) (v := ?_) rfl (by kernel_rfl) (by kernel_rfl) (by kernel_rfl) (fun _ _ _ h => h) (Or.inl ⟨by kernel_rfl, ?_⟩) hH8 ?_
 rotate_left
 ·intro w hSw; (try dsimp only at hSw); go_simp
  all_goals with_reducible rfl
 try simp only [tkS, Act.put]
 refine wpAnyH_take (i := 62) (oi := _) (v := ?_) rfl (by kernel_rfl) (by kernel_rfl) (by kernel_rfl) (fun _ _ _ h => h) (Or.inl ⟨by kernel_rfl, ?_⟩) hH8 ?_
 rotate_left
 ·intro w hSw; (try dsimp only at hSw); have a0 := kept hSw HL0.out; have a1 := kept hSw HL1.out; go_simp
  all_goals with_reducible rfl
 try simp only [tkS, Act.put]
 refine wpAnyH_take (i := 63) (oi := _) (v := ?_) rfl (by kernel_rfl) (by kernel_rfl) (by kernel_rfl) (fun _ _ _ h => h) (Or.inl ⟨by kernel_rfl, ?_⟩) hH8 ?_
 rotate_left
 ·intro w hSw; (try dsimp only at hSw); have a0 := kept hSw HL0.out; have a1 := kept hSw HL1.out; go_simp
  all_goals with_reducible rfl
 try simp only [tkS, Act.put]
 refine wpAnyH_take (i := 64) (oi := _) (v := ?_) rfl (by kernel_rfl) (by kernel_rfl) (by kernel_rfl) (fun _ _ _ h => h) (Or.inl ⟨by kernel_rfl, ?_⟩) hH8 ?_
 rotate_left
 ·intro w hSw; (try dsimp only at hSw); have a0 := kept hSw HL0.out; have a1 := kept hSw HL1.out; go_simp
  all_goals with_reducible rfl
 try simp only [tkS, Act.put]
 refine wpAnyH_ready (rs := [65]) (by kernel_rfl) (by simp) ?_
 refine AllReadyH.cons (o := _) rfl (fun K hK => ?_) AllReadyH.nil
 go_simp
 go_at_call 23
 refine (g_con _ _ _ (I0.out.mono hH8) (is_head (I0.out.mono hH8))).mono ?_
 rintro e w18 ⟨rfl, hbw18⟩
 go_wp2_with fail
 refine hK.out _ _ ?_ (fun hH9 => ?_)
 ·exact hH8.trans ((show Below w17.heap.size w17 _ from (by repeat (first | exact zR _ _ | assumption | refine zN ?_ _ | refine zD ?_ | refine zA ?_ ?_ _ | refine zS ?_ ?_ _ | refine zT ?_ (zM (by assumption) ?_) | exact Nat.le_refl _ | (simp <;> omega) | omega))).mono hH8.size)
 try simp only [tkS, Act.put]
 clear hK K
 refine wpAnyH_take (i := 66) (oi := _) (v := ?_) rfl (by kernel_rfl) (by kernel_rfl) (by kernel_rfl) (fun _ _ _ h => h) (Or.inl ⟨by kernel_rfl, ?_⟩) hH9 ?_
 rotate_left
 ·intro w hSw; (try dsimp only at hSw); go_simp
  all_goals with_reducible rfl
 try simp only [tkS, Act.put]
 refine wpAnyH_take (i := 67) (oi := _) (v := ?_) rfl (by kernel_rfl) (by kernel_rfl) (by kernel_rfl) (fun _ _ _ h => h) (Or.inl ⟨by kernel_rfl, ?_⟩) hH9 ?_
 rotate_left
 ·intro w hSw; (try dsimp only at hSw); go_simp
  all_goals with_reducible rfl
 try simp only [tkS, Act.put]
 refine wpAnyH_done (by kernel_rfl) ?_ _
 go_wp2
 go_ret
 exact ⟨by first | rfl | trivial | simp, HB9.out.trans (hH9.mono HB9.out.size)⟩
end Go.Proofs.YtaaobpicaaeiiaaGreatDoor
