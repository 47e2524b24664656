/- The reference's sort. -/
import Derived.Test.YtaneolfnnkppbaaGreatDoorJParsU
set_option linter.all false
namespace Go.Proofs.YtaneolfnnkppbaaGreatDoor
open Go Go.RowKit Go.ChangeShapes
def srtTl : Code → Code
 | .seq _ b => b
 | c => c
def srtHd : Code → Code
 | .seq a _ => a
 | c => c
set_option maxRecDepth 100000 in
set_option maxHeartbeats 8000000 in
theorem srt4 {K1 : Act → World → Prop} {x0 x4 x5 x6 x7 x8 x9 x10 x11 x12 x13 x14 x15 x16 x17 x18 x19 x20 x21 x22 x23 x24 x25 x26 x27 x28 x29 x30 x31 x32 x33 x34 x35 x36 x37 x38 x39 x40 x41 x42 x43 x44 x45 x46 x47 x48 x49 x50 x51 x52 x53 x54 x55 x56 x57 x58 x59 x60 x61 x62 x63 x64 x65 x66 x67 x68 x69 x70 x71 x72 x73 x74 x75 x76 x77 x78 x79 x80 x81 x82 x83 x84 x85 x86 x87 x88 x89 x90 x91 x92 x93 x94 x95 x96 x97 x98 x99 x100 x101 x102 x103 x104 x105 x106 x107 x108 x109 x110 x111 x112 x113 x114 x115 x116 x117 x118 x119 x120 x121 x122 x123 x124 x125 x126 x127 x128 x129 x130 x131 x132 x133 x134 x135 x136 x137 x138 x139 x140 x141 x142 x143 x144 x145 x146 x147 x148 x149 x150 x151 x152 x153 x154 x155 x156 x157 x158 x159 x160 x161 x162 x163 x164 x165 x166 x167 x168 x169 x170 x171 x172 x173 x174 x175 x176 x177 x178 x179 x180 x181 x182 x183 x184 x185 x186 x187 x188 x189 x190 x191 x192 x193 x194 x195 x196 x197 x198 x199 x200 x201 x202 x203 x204 x205 x206 x207 x208 x209 x210 x211 x212 x213 x214 x215 x216 x217 x218 x219 x220 x221 x222 x223 x224 x225 x226 x227 x228 x229 x230 x231 x232 x233 x234 x235 x236 x237 x238 x239 x240 x241 : Value} (B S : Nat) (w wr : World) (c : Catalog) (hK1 : ∀ a v, Code.wp Tryz.prog (srtTl (srtTl (srtTl (srtTl (srtTl (srtTl (srtTl (Tryz.f52.body.getD .skip)))))))) (bodyPost Tryz.prog Tryz.f52 fun e w' => ∃ a0 a1 a2 a3, e = .returned (.agg #[a0, a1, a2, a3]) ∧ Below w.heap.size w w' ∧ RC B w' a0 a1 a2 a3 (sortC c)) a v → K1 a v) (hS : w.heap.size = S) {A : Array Value} {N0 N1 N2 N3 : Nat} {a0 : Option Addr} {q0 : Nat} {a1 : Option Addr} {q1 : Nat} {a2 : Option Addr} {q2 : Nat} {a3 : Option Addr} {q3 : Nat} (HS0 : Hid (SS B S w wr A (.slice a0 N0 q0) (.slice a1 N1 q1) (.slice a2 N2 q2) (.slice a3 N3 q3) ⟨sortS (fun a b => slt a.name b.name) c.licenses, sortS (fun a b => slt a.name b.name) c.exceptions, sortS clauseLt c.clauses, sortS pairLt c.apart⟩)) :
  Code.wp Tryz.prog (srtHd (srtTl (srtTl (srtTl (srtTl (srtTl (srtTl (Tryz.f52.body.getD .skip)))))))) (Exit.then K1 (bodyPost Tryz.prog Tryz.f52 fun e w' => ∃ a0 a1 a2 a3, e = .returned (.agg #[a0, a1, a2, a3]) ∧ Below w.heap.size w w' ∧ RC B w' a0 a1 a2 a3 (sortC c))) ⟨#[x0, .pointer (some ⟨S, 0, none⟩), .pointer (some ⟨S + 1, 0, none⟩), .pointer (some ⟨S + 1 + 1, 0, none⟩), x4, x5, x6, x7, x8, x9, x10, x11, x12, x13, x14, x15, x16, x17, x18, x19, x20, x21, x22, x23, x24, x25, x26, x27, x28, x29, x30, x31, x32, x33, x34, x35, x36, x37, x38, x39, x40, x41, x42, x43, x44, x45, x46, x47, x48, x49, x50, x51, x52, x53, x54, x55, x56, x57, x58, x59, x60, x61, x62, x63, x64, x65, x66, x67, x68, x69, x70, x71, x72, x73, x74, x75, x76, x77, x78, x79, x80, x81, x82, x83, x84, x85, x86, x87, x88, x89, x90, x91, x92, x93, x94, x95, x96, x97, x98, x99, x100, x101, x102, x103, x104, x105, x106, x107, x108, x109, x110, x111, x112, x113, x114, x115, x116, x117, x118, x119, x120, x121, x122, x123, x124, x125, x126, x127, x128, x129, x130, x131, x132, x133, x134, x135, x136, x137, x138, x139, x140, x141, x142, x143, x144, x145, x146, x147, x148, x149, x150, x151, x152, x153, x154, x155, x156, x157, x158, x159, x160, x161, x162, x163, x164, x165, x166, x167, x168, x169, x170, x171, x172, x173, x174, x175, x176, x177, x178, x179, x180, x181, x182, x183, x184, x185, x186, x187, x188, x189, x190, x191, x192, x193, x194, x195, x196, x197, x198, x199, x200, x201, x202, x203, x204, x205, x206, x207, x208, x209, x210, x211, x212, x213, x214, x215, x216, x217, x218, x219, x220, x221, x222, x223, x224, x225, x226, x227, x228, x229, x230, x231, x232, x233, x234, x235, x236, x237, x238, x239, x240, x241], []⟩ wr := by
 change ∀ a v, Code.wp _ Code.ret _ a v → _ at hK1
 change Code.wp _ (Code.region _ _ _) _ _ _
 have hsz := HS0.out.lt
 have hle := HS0.out.le
 have y0 := objcell HS0.out.out (j := 0) rfl
 have y1 := objcell HS0.out.out (j := 1) rfl
 have y2 := objcell HS0.out.out (j := 2) rfl
 have y3 := objcell HS0.out.out (j := 3) rfl
 have x0 := objcell HS0.out.res (j := 0) rfl
 have x1 := objcell HS0.out.res (j := 1) rfl
 have x2 := objcell HS0.out.res (j := 2) rfl
 have x3 := objcell HS0.out.res (j := 3) rfl
 have g0 := objfrozen HS0.out.res (j := 0)
 have g1 := objfrozen HS0.out.res (j := 1)
 have g2 := objfrozen HS0.out.res (j := 2)
 have g3 := objfrozen HS0.out.res (j := 3)
 go_wp2
 refine bodyPost_ret (v := .agg #[.slice a0 N0 q0, .slice a1 N1 q1, .slice a2 N2 q2, .slice a3 N3 q3]) (by simp [results, Tryz.results52, go_sem, x0, x1, x2, x3, y0, y1, y2, y3]) rfl ?_
 rw [hS]
 exact ⟨_, _, _, _, rfl, below_4 (by omega) HS0.out.bel, HS0.out.rc.agree (agree_4 (by omega) ⟨_, _, HS0.out.res⟩)⟩
set_option maxRecDepth 100000 in
set_option maxHeartbeats 8000000 in
theorem srt3 {K1 K2 : Act → World → Prop} {x0 x4 x5 x6 x7 x8 x9 x10 x11 x12 x13 x14 x15 x16 x17 x18 x19 x20 x21 x22 x23 x24 x25 x26 x27 x28 x29 x30 x31 x32 x33 x34 x35 x36 x37 x38 x39 x40 x41 x42 x43 x44 x45 x46 x47 x48 x49 x50 x51 x52 x53 x54 x55 x56 x57 x58 x59 x60 x61 x62 x63 x64 x65 x66 x67 x68 x69 x70 x71 x72 x73 x74 x75 x76 x77 x78 x79 x80 x81 x82 x83 x84 x85 x86 x87 x88 x89 x90 x91 x92 x93 x94 x95 x96 x97 x98 x99 x100 x101 x102 x103 x104 x105 x106 x107 x108 x109 x110 x111 x112 x113 x114 x115 x116 x117 x118 x119 x120 x121 x122 x123 x124 x125 x126 x127 x128 x129 x130 x131 x132 x133 x134 x135 x136 x137 x138 x139 x140 x141 x142 x143 x144 x145 x146 x147 x148 x149 x150 x151 x152 x153 x154 x155 x156 x157 x158 x159 x160 x161 x162 x163 x164 x165 x166 x167 x168 x169 x170 x171 x172 x173 x174 x175 x176 x177 x178 x179 x180 x181 x182 x183 x184 x185 x186 x187 x188 x189 x190 x191 x192 x193 x194 x195 x196 x197 x198 x199 x200 x201 x202 x203 x204 x205 x206 x207 x208 x209 x210 x211 x212 x213 x214 x215 x216 x217 x218 x219 x220 x221 x222 x223 x224 x225 x226 x227 x228 x229 x230 x231 x232 x233 x234 x235 x236 x237 x238 x239 x240 x241 : Value} (B S : Nat) (w wr : World) (c : Catalog) (hK1 : ∀ a v, Code.wp Tryz.prog (srtTl (srtTl (srtTl (srtTl (srtTl (srtTl (Tryz.f52.body.getD .skip))))))) (bodyPost Tryz.prog Tryz.f52 fun e w' => ∃ a0 a1 a2 a3, e = .returned (.agg #[a0, a1, a2, a3]) ∧ Below w.heap.size w w' ∧ RC B w' a0 a1 a2 a3 (sortC c)) a v → K1 a v) (hK2 : ∀ a v, Code.wp Tryz.prog (srtTl (srtHd (srtTl (srtTl (srtTl (srtTl (srtTl (Tryz.f52.body.getD .skip)))))))) (Exit.then K1 (bodyPost Tryz.prog Tryz.f52 fun e w' => ∃ a0 a1 a2 a3, e = .returned (.agg #[a0, a1, a2, a3]) ∧ Below w.heap.size w w' ∧ RC B w' a0 a1 a2 a3 (sortC c))) a v → K2 a v) (hS : w.heap.size = S) {p0 p1 p2 p3 : Option Addr} {m0 m1 m2 m3 N0 N1 N2 N3 : Nat} (HR : Hid (RC B w (.slice p0 N0 m0) (.slice p1 N1 m1) (.slice p2 N2 m2) (.slice p3 N3 m3) c)) (HL0 : Hid (c.licenses.length = N0)) (HL1 : Hid (c.exceptions.length = N1)) (HL2 : Hid (c.clauses.length = N2)) (HL3 : Hid (c.apart.length = N3)) (n0 : N0 ≤ 100000000) (n1 : N1 ≤ 100000000) (n2 : N2 ≤ 100000000) (n3 : N3 ≤ 100000000) {a0 : Option Addr} {q0 : Nat} {a1 : Option Addr} {q1 : Nat} {a2 : Option Addr} {q2 : Nat} (HS0 : Hid (SS B S w wr #[.slice p0 N0 m0, .slice p1 N1 m1, .slice p2 N2 m2, .slice p3 N3 m3] (.slice a0 N0 q0) (.slice a1 N1 q1) (.slice a2 N2 q2) (.slice none 0 0) ⟨sortS (fun a b => slt a.name b.name) c.licenses, sortS (fun a b => slt a.name b.name) c.exceptions, sortS clauseLt c.clauses, []⟩)) :
  Code.wp Tryz.prog (srtHd (srtHd (srtTl (srtTl (srtTl (srtTl (srtTl (Tryz.f52.body.getD .skip)))))))) (Exit.then K2 (Exit.then K1 (bodyPost Tryz.prog Tryz.f52 fun e w' => ∃ a0 a1 a2 a3, e = .returned (.agg #[a0, a1, a2, a3]) ∧ Below w.heap.size w w' ∧ RC B w' a0 a1 a2 a3 (sortC c)))) ⟨#[x0, .pointer (some ⟨S, 0, none⟩), .pointer (some ⟨S + 1, 0, none⟩), .pointer (some ⟨S + 1 + 1, 0, none⟩), x4, x5, x6, x7, x8, x9, x10, x11, x12, x13, x14, x15, x16, x17, x18, x19, x20, x21, x22, x23, x24, x25, x26, x27, x28, x29, x30, x31, x32, x33, x34, x35, x36, x37, x38, x39, x40, x41, x42, x43, x44, x45, x46, x47, x48, x49, x50, x51, x52, x53, x54, x55, x56, x57, x58, x59, x60, x61, x62, x63, x64, x65, x66, x67, x68, x69, x70, x71, x72, x73, x74, x75, x76, x77, x78, x79, x80, x81, x82, x83, x84, x85, x86, x87, x88, x89, x90, x91, x92, x93, x94, x95, x96, x97, x98, x99, x100, x101, x102, x103, x104, x105, x106, x107, x108, x109, x110, x111, x112, x113, x114, x115, x116, x117, x118, x119, x120, x121, x122, x123, x124, x125, x126, x127, x128, x129, x130, x131, x132, x133, x134, x135, x136, x137, x138, x139, x140, x141, x142, x143, x144, x145, x146, x147, x148, x149, x150, x151, x152, x153, x154, x155, x156, x157, x158, x159, x160, x161, x162, x163, x164, x165, x166, x167, x168, x169, x170, x171, x172, x173, x174, x175, x176, x177, x178, x179, x180, x181, x182, x183, x184, x185, x186, x187, x188, x189, x190, x191, x192, x193, x194, x195, x196, x197, x198, x199, x200, x201, x202, x203, x204, x205, x206, x207, x208, x209, x210, x211, x212, x213, x214, x215, x216, x217, x218, x219, x220, x221, x222, x223, x224, x225, x226, x227, x228, x229, x230, x231, x232, x233, x234, x235, x236, x237, x238, x239, x240, x241], []⟩ wr := by
 change ∀ a v, Code.wp _ (Code.seq _ _) _ a v → _ at hK1
 change ∀ a v, Code.wp _ (Code.block _ _) _ a v → _ at hK2
 change Code.wp _ (Code.region _ _ _) _ _ _
 go_wp2
 go_loopw [10] (fun iv wr => ∃ (i : Nat) (a3 : Option Addr) (q3 : Nat) (acc : List Pair), i ≤ N3 ∧ iv = .int .i64 i ∧ acc.reverse.length = i ∧ Hid (acc = accS pairLt c.apart i) ∧ Hid (SS B S w wr #[.slice p0 N0 m0, .slice p1 N1 m1, .slice p2 N2 m2, .slice p3 N3 m3] (.slice a0 N0 q0) (.slice a1 N1 q1) (.slice a2 N2 q2) (.slice a3 i q3) ⟨sortS (fun a b => slt a.name b.name) c.licenses, sortS (fun a b => slt a.name b.name) c.exceptions, sortS clauseLt c.clauses, acc.reverse⟩)) (fun iv _ => N3 - (intOf iv).toNat)
 case atStart => exact ⟨0, none, 0, [], Nat.zero_le _, by go_num, rfl, rfl, HS0⟩
 case round =>
  clear HS0
  obtain ⟨i, a3, q3, acc, hi, rfl, hlen, HAC, HS⟩ := hrel
  by_cases hlt : i < N3
  ·obtain ⟨x, hx⟩ := get_lt (xs := c.apart) (k := i) (by rw [HL3.out]; exact hlt)
   have hlz : (i : Int) < (N3 : Int) := by omega
   obtain ⟨b, yy, rfl, -, -, hb, hyl, hcell, hkeep, -⟩ := HR.out.prs.elem hx
   obtain ⟨⟨la, ld, lc⟩, rfl⟩ := ofPair _ yy x hyl (hkeep _ (Agree.refl _ _ _))
   have hbw : Below w.heap.size w wr := by rw [hS]; exact HS.out.bel
   have e0 : wr.cell? ⟨b, i * 2, none⟩ = some (.string x.a) := kept hbw (hcell 0 _ rfl).1
   have e1 : wr.cell? ⟨b, i * 2 + 1, none⟩ = some (.string x.b) := kept hbw (hcell 1 _ rfl).1
   have z0 := objcell HS.out.arg (j := 3) rfl
   have y0 := objcell HS.out.out (j := 3) rfl
   have yf := objfrozen HS.out.out (j := 3)
   have hsz := HS.out.lt
   have hgb : b < wr.heap.size := cell_lt e0
   have hne2 := own_ne HS.out.rc.prs HS.out.out (by decide)
   have HX := Lib.hid hx
   have HK := Lib.hid hkeep
   clear hcell hbw hx hkeep hb hyl
   go_wp2
   apply share (H := fun a' c' w2 => Hid (SS B S w w2 #[.slice p0 N0 m0, .slice p1 N1 m1, .slice p2 N2 m2, .slice (some ⟨b, 0, none⟩) N3 m3] (.slice a0 N0 q0) (.slice a1 N1 q1) (.slice a2 N2 q2) (.slice a' (i + 1) c') ⟨sortS (fun a b => slt a.name b.name) c.licenses, sortS (fun a b => slt a.name b.name) c.exceptions, sortS clauseLt c.clauses, acc.reverse ++ [x]⟩))
   ·intro key
    go_region_law ((refine step_app2 apRow rfl (by decide) Tryz.underlying26 (by rfl) _ _ (by rfl) B S HS.out.le E6 (.slice a3 i q3) acc.reverse (by rfl) (by decide) (HS.out.rc.prs.below (by first | ((repeat (first | exact Below.refl _ _ | assumption | refine Below.drewN ?_ _ | refine Below.drew ?_ | refine Below.alloc ?_ (by first | exact Nat.le_refl _ | (simp; done) | (simp; omega) | omega) _ | refine Below.setCell ?_ (by first | exact Nat.le_refl _ | (simp; done) | (simp; omega) | omega) _ | refine Below.trans ?_ (Below.mono (by assumption) (by first | exact Nat.le_refl _ | (simp; done) | (simp; omega) | omega)))); done) | fail)) HS.out.g3 ⟨wr.heap.size, 0, none⟩ [.string x.a, .string x.b] x (by rfl) rfl (World.news_of_block (cs := #[.string x.a, .string x.b]) (t := 52) (fr := (0, 0)) (heap_alloc_new wr _)) (by simp [Value.oneCell']) (fun w'' hA => HK.out w'' ((Agree.of_below (by rw [hS]; exact HS.out.bel.trans (by first | ((repeat (first | exact Below.refl _ _ | assumption | refine Below.drewN ?_ _ | refine Below.drew ?_ | refine Below.alloc ?_ (by first | exact Nat.le_refl _ | (simp; done) | (simp; omega) | omega) _ | refine Below.setCell ?_ (by first | exact Nat.le_refl _ | (simp; done) | (simp; omega) | omega) _ | refine Below.trans ?_ (Below.mono (by assumption) (by first | exact Nat.le_refl _ | (simp; done) | (simp; omega) | omega)))); done) | fail))).trans hA)) (by rw [hlen]; omega) (by simp; omega) ?_; rw [hlen]; intro a' c' w1 ho1 hoG hg1; have hr6 := keep_g y0 (by first | ((repeat (first | exact Below.refl _ _ | assumption | refine Below.drewN ?_ _ | refine Below.drew ?_ | refine Below.alloc ?_ (by first | exact Nat.le_refl _ | (simp; done) | (simp; omega) | omega) _ | refine Below.setCell ?_ (by first | exact Nat.le_refl _ | (simp; done) | (simp; omega) | omega) _ | refine Below.trans ?_ (Below.mono (by assumption) (by first | exact Nat.le_refl _ | (simp; done) | (simp; omega) | omega)))); done) | fail) hg1 hne2; have hf6 := (hg1.frozen_far ⟨S + 1 + 1, 3, none⟩ (by simp; omega) hne2).trans (keptF (a := ⟨S + 1 + 1, 3, none⟩) (by first | ((repeat (first | exact Below.refl _ _ | assumption | refine Below.drewN ?_ _ | refine Below.drew ?_ | refine Below.alloc ?_ (by first | exact Nat.le_refl _ | (simp; done) | (simp; omega) | omega) _ | refine Below.setCell ?_ (by first | exact Nat.le_refl _ | (simp; done) | (simp; omega) | omega) _ | refine Below.trans ?_ (Below.mono (by assumption) (by first | exact Nat.le_refl _ | (simp; done) | (simp; omega) | omega)))); done) | fail) y0 yf)))
    all_goals
     have hgr1 := OwnL.grown (HS.out.rc.prs.below (by first | ((repeat (first | exact Below.refl _ _ | assumption | refine Below.drewN ?_ _ | refine Below.drew ?_ | refine Below.alloc ?_ (by first | exact Nat.le_refl _ | (simp; done) | (simp; omega) | omega) _ | refine Below.setCell ?_ (by first | exact Nat.le_refl _ | (simp; done) | (simp; omega) | omega) _ | refine Below.trans ?_ (Below.mono (by assumption) (by first | exact Nat.le_refl _ | (simp; done) | (simp; omega) | omega)))); done) | fail)) hg1 (by have := HS.out.le; simp; omega)
     have hgb1 := Below.grown (B := S) (Below.refl _ _) hg1 (by simp; omega) HS.out.g3
     have HS1 := Lib.hid ((HS.out.below (by first | ((repeat (first | exact Below.refl _ _ | assumption | refine Below.drewN ?_ _ | refine Below.drew ?_ | refine Below.alloc ?_ (by first | exact Nat.le_refl _ | (simp; done) | (simp; omega) | omega) _ | refine Below.setCell ?_ (by first | exact Nat.le_refl _ | (simp; done) | (simp; omega) | omega) _ | refine Below.trans ?_ (Below.mono (by assumption) (by first | exact Nat.le_refl _ | (simp; done) | (simp; omega) | omega)))); done) | fail)).set (j := 3) (by decide) hgb1 hgr1.2 rfl (HS.out.rc.set_prs (by first | ((repeat (first | exact Below.refl _ _ | assumption | refine Below.drewN ?_ _ | refine Below.drew ?_ | refine Below.alloc ?_ (by first | exact Nat.le_refl _ | (simp; done) | (simp; omega) | omega) _ | refine Below.setCell ?_ (by first | exact Nat.le_refl _ | (simp; done) | (simp; omega) | omega) _ | refine Below.trans ?_ (Below.mono (by assumption) (by first | exact Nat.le_refl _ | (simp; done) | (simp; omega) | omega)))); done) | fail) hgr1.2 ho1) HS.out.g0 HS.out.g1 HS.out.g2 hoG)
     clear hgr1 hgb1 ho1 hoG hg1 hr6 hf6
     generalize w1.setCell ⟨S + 1 + 1, 3, none⟩ (.slice a' (i + 1) c') = w2 at HS1 ⊢
     exact key a' c' w2 HS1
   ·intro an qn w2 HS1
    clear e0 e1 z0 y0 yf hsz hgb hne2 HS HK
    go_wp2
    generalize wr.heap.size = wz
    clear wr
    go_loopw [11] (fun kv wr => ∃ (k : Nat) (row : List Pair), k ≤ i ∧ kv = .int .i64 k ∧ Hid (InsI pairLt x acc k row) ∧ Hid (SS B S w wr #[.slice p0 N0 m0, .slice p1 N1 m1, .slice p2 N2 m2, .slice (some ⟨b, 0, none⟩) N3 m3] (.slice a0 N0 q0) (.slice a1 N1 q1) (.slice a2 N2 q2) (.slice an (i + 1) qn) ⟨sortS (fun a b => slt a.name b.name) c.licenses, sortS (fun a b => slt a.name b.name) c.exceptions, sortS clauseLt c.clauses, row⟩)) (fun kv _ => (intOf kv).toNat)
    case atStart => exact ⟨i, _, Nat.le_refl _, rfl, by have := InsI.start pairLt x acc; simp only [List.length_reverse] at hlen; rw [hlen] at this; exact this, HS1⟩
    case round =>
     clear HS1
     obtain ⟨k, row, hki, rfl, HI, HS2⟩ := hrel
     cases k with
     | zero =>
      go_wp2
      go_quiet (fail)
      have HE : Hid (row = (accS pairLt c.apart (i + 1)).reverse) := by
       show _ = _
       rw [← accS_step pairLt HX.out, ← HAC.out]; exact HI.out.ends
      generalize hdr : wr.drewN nq = wv
      have hbz : Below wr.heap.size wr wv := by rw [← hdr]; exact (by first | ((repeat (first | exact Below.refl _ _ | assumption | refine Below.drewN ?_ _ | refine Below.drew ?_ | refine Below.alloc ?_ (by first | exact Nat.le_refl _ | (simp; done) | (simp; omega) | omega) _ | refine Below.setCell ?_ (by first | exact Nat.le_refl _ | (simp; done) | (simp; omega) | omega) _ | refine Below.trans ?_ (Below.mono (by assumption) (by first | exact Nat.le_refl _ | (simp; done) | (simp; omega) | omega)))); done) | fail)
      clear hdr
      have HS3 := Lib.hid (HS2.out.below hbz)
      clear HS2 HI hbz
      clear wr
      go_wp2
      go_roundw
      case rel => exact ⟨i + 1, _, _, accS pairLt c.apart (i + 1), by omega, by go_num, by rw [List.length_reverse]; exact accS_length _ (by rw [HL3.out]; omega), rfl, by rw [HE.out] at HS3; exact HS3⟩
      case measure => simp [intOf]; omega
     | succ j =>
      obtain ⟨hxk, y, hyk, hstop, hgo⟩ := HI.out.here
      obtain ⟨g, cx, rfl, -, hg, hgl, lx, fx, sx, hcur⟩ := HS2.out.rc.prs.elem hxk
      have ix := sx _ (Agree.refl _ _ _)
      obtain ⟨⟨ja, jd, jc⟩, rfl⟩ := ofPair _ cx x lx ix
      obtain ⟨g', cy, he, -, -, -, ly, fy, sy, -⟩ := HS2.out.rc.prs.elem hyk
      cases he
      have iy := sy _ (Agree.refl _ _ _)
      obtain ⟨⟨ka, kd, kc⟩, rfl⟩ := ofPair _ cy y ly iy
      have y0 := objcell HS2.out.out (j := 3) rfl
      have hwj : IntKind.i64.wrap (j : Int) = j := IntWalk.i64_in _ (by omega)
      have HST := Lib.hid hstop
      have HGO := Lib.hid hgo
      have HXK := Lib.hid hxk
      have HYK := Lib.hid hyk
      have e0 : wr.cell? ⟨g, (j + 1) * 2, none⟩ = some (.string x.a) := (fx 0 _ rfl).1
      have e1 : wr.cell? ⟨g, (j + 1) * 2 + 1, none⟩ = some (.string x.b) := (fx 1 _ rfl).1
      have f0 : wr.cell? ⟨g, j * 2, none⟩ = some (.string y.a) := (fy 0 _ rfl).1
      have f1 : wr.cell? ⟨g, j * 2 + 1, none⟩ = some (.string y.b) := (fy 1 _ rfl).1
      have ISX := Lib.hid (fun w' hA => is_enc (w := w') lx rfl (sx w' hA))
      have ISY := Lib.hid (fun w' hA => is_enc (w := w') ly rfl (sy w' hA))
      have b1 : j + 1 < i + 1 := by omega
      have b2 : j < i + 1 := by omega
      have b3 : (j : Int) + 1 < (i : Int) + 1 := by omega
      have b4 : (j : Int) < (i : Int) + 1 := by omega
      have b5 : (0 : Int) ≤ (j : Int) + 1 := by omega
      have b6 : ((j : Int) + 1).toNat = j + 1 := by omega
      clear hstop hgo hxk hyk fx sx fy sy lx ly hcur ix iy
      go_wp2
      refine still_tail 14 (by kernel_rfl) (by kernel_rfl) ?_
      simp only [List.take_succ_cons, List.take_zero, List.drop_succ_cons, List.drop_zero]
      repeat still_step
      refine wpStill_nil ?_
      clear hwj
      go_wp2_with fail
      refine (before_ref _ _ _ x y (ISX.out _ (Agree.of_below (by first | ((repeat (first | exact Below.refl _ _ | assumption | refine Below.drewN ?_ _ | refine Below.drew ?_ | refine Below.alloc ?_ (by first | exact Nat.le_refl _ | (simp; done) | (simp; omega) | omega) _ | refine Below.setCell ?_ (by first | exact Nat.le_refl _ | (simp; done) | (simp; omega) | omega) _ | refine Below.trans ?_ (Below.mono (by assumption) (by first | exact Nat.le_refl _ | (simp; done) | (simp; omega) | omega)))); done) | fail))) (ISY.out _ (Agree.of_below (by first | ((repeat (first | exact Below.refl _ _ | assumption | refine Below.drewN ?_ _ | refine Below.drew ?_ | refine Below.alloc ?_ (by first | exact Nat.le_refl _ | (simp; done) | (simp; omega) | omega) _ | refine Below.setCell ?_ (by first | exact Nat.le_refl _ | (simp; done) | (simp; omega) | omega) _ | refine Below.trans ?_ (Below.mono (by assumption) (by first | exact Nat.le_refl _ | (simp; done) | (simp; omega) | omega)))); done) | fail)))).mono ?_
      rintro e wv ⟨rfl, hb3⟩
      have hbz : Below wr.heap.size wr wv := ((Below.refl wr.heap.size wr).drew).trans hb3
      have hwj : IntKind.i64.wrap (j : Int) = j := IntWalk.i64_in _ (by omega)
      clear hb3 ISX ISY b1 b2 b3 b4 b5 b6
      cases q : pairLt x y
      case false =>
       have HE : Hid (row = (accS pairLt c.apart (i + 1)).reverse) := by
        show _ = _
        rw [← accS_step pairLt HX.out, ← HAC.out]; exact HST.out q
       have HS3 := Lib.hid (HS2.out.below hbz)
       clear e0 f0 e1 f1 y0 HS2 HI HST HGO hbz hgl
       clear wr
       go_wp2
       go_roundw
       case rel => exact ⟨i + 1, _, _, accS pairLt c.apart (i + 1), by omega, by go_num, by rw [List.length_reverse]; exact accS_length _ (by rw [HL3.out]; omega), rfl, by rw [HE.out] at HS3; exact HS3⟩
       case measure => simp [intOf]; omega
      case true =>
       have HS3 := Lib.hid (HS2.out.below hbz)
       have HI4 := Lib.hid (HGO.out q)
       clear e0 f0 e1 f1 y0 HS2 HI HST HGO hbz hgl
       clear wr
       obtain ⟨kk, hkk⟩ : ∃ k, k = Lay.n Pair := ⟨_, rfl⟩
       have zE : ∀ w, (Go.sizeOf 52).run Tryz.prog w = .ok kk w := by rw [hkk]; exact Tryz.sizeOf52
       obtain ⟨g', cx, cy, he, -, hgB, hgl, lx, ly, hcur, ld1, ld2, st1, st2, ho, hA, -⟩ := (HS3.out.rc.prs.below (w' := wv.drew) (by first | ((repeat (first | exact Below.refl _ _ | assumption | refine Below.drewN ?_ _ | refine Below.drew ?_ | refine Below.alloc ?_ (by first | exact Nat.le_refl _ | (simp; done) | (simp; omega) | omega) _ | refine Below.setCell ?_ (by first | exact Nat.le_refl _ | (simp; done) | (simp; omega) | omega) _ | refine Below.trans ?_ (Below.mono (by assumption) (by first | exact Nat.le_refl _ | (simp; done) | (simp; omega) | omega)))); done) | fail)).swap (by decide) onePrs HXK.out HYK.out
       cases he
       rw [← hkk] at lx ly ld1 ld2 st1 st2 ho hA
       have hgS : S ≤ g := HS3.out.g3.at
       have hbs : Below S wv.drew ((wv.drew.setCells g ((j + 1) * kk) cy).setCells g (j * kk) cx) := below_setCellsO hgS _ _ _ _ (below_setCellsO hgS _ _ _ _ (Below.refl _ _))
       have l1 := ld1 Tryz.prog
       have l2 := ld2 Tryz.prog
       have t1 := st1 Tryz.prog
       have t2 := st2 Tryz.prog
       have y0 := objcell HS3.out.out (j := 3) rfl
       have hSz := HS3.out.lt
       have hgne : S + 1 + 1 ≠ g := fun e => own_ne HS3.out.rc.prs HS3.out.out (by decide) (by rw [e]; rfl)
       have y1 : (wv.drew.setCells g ((j + 1) * kk) cy).cell? ⟨S + 1 + 1, 3, none⟩ = some (.slice (some ⟨g, 0, none⟩) (i + 1) qn) := by
        rw [World.cell?_setCells_out g _ _ _ _ (fun e _ => absurd e hgne)]; simpa using y0
       have HS4 : Hid (SS B S w ((wv.drew.setCells g ((j + 1) * kk) cy).setCells g (j * kk) cx) #[.slice p0 N0 m0, .slice p1 N1 m1, .slice p2 N2 m2, .slice (some ⟨b, 0, none⟩) N3 m3] (.slice a0 N0 q0) (.slice a1 N1 q1) (.slice a2 N2 q2) (.slice (some ⟨g, 0, none⟩) (i + 1) qn) ⟨sortS (fun a b => slt a.name b.name) c.licenses, sortS (fun a b => slt a.name b.name) c.exceptions, sortS clauseLt c.clauses, (row.set (j + 1) y).set j x⟩) :=
        (HS3.out.below (w' := wv.drew) (by first | ((repeat (first | exact Below.refl _ _ | assumption | refine Below.drewN ?_ _ | refine Below.drew ?_ | refine Below.alloc ?_ (by first | exact Nat.le_refl _ | (simp; done) | (simp; omega) | omega) _ | refine Below.setCell ?_ (by first | exact Nat.le_refl _ | (simp; done) | (simp; omega) | omega) _ | refine Below.trans ?_ (Below.mono (by assumption) (by first | exact Nat.le_refl _ | (simp; done) | (simp; omega) | omega)))); done) | fail)).swp (by decide) hbs hA ((HS3.out.below (w' := wv.drew) (by first | ((repeat (first | exact Below.refl _ _ | assumption | refine Below.drewN ?_ _ | refine Below.drew ?_ | refine Below.alloc ?_ (by first | exact Nat.le_refl _ | (simp; done) | (simp; omega) | omega) _ | refine Below.setCell ?_ (by first | exact Nat.le_refl _ | (simp; done) | (simp; omega) | omega) _ | refine Below.trans ?_ (Below.mono (by assumption) (by first | exact Nat.le_refl _ | (simp; done) | (simp; omega) | omega)))); done) | fail)).rc.set_prs (Below.refl _ _) hA ho)
       have mixed : Tryz.prog.follows .mixedOrders = true := by kernel_rfl
       have aE := Tryz.isAgg52
       clear ld1 ld2 st1 st2 ho hA hbs hcur hkk
       go_wp2
       go_big_region_o
       clear l1 l2 t1 t2
       generalize (wv.drew.setCells g ((j + 1) * kk) cy).setCells g (j * kk) cx = w4 at HS4 ⊢
       go_wp2
       go_roundw
       case rel => exact ⟨j, _, by omega, by go_num, HI4, HS4⟩
       case measure => simp [intOf]
  ·obtain rfl : N3 = i := by omega
   have HS0 : Hid (SS B S w wr #[.slice p0 N0 m0, .slice p1 N1 m1, .slice p2 N2 m2, .slice p3 N3 m3] (.slice a0 N0 q0) (.slice a1 N1 q1) (.slice a2 N2 q2) (.slice a3 N3 q3) ⟨sortS (fun a b => slt a.name b.name) c.licenses, sortS (fun a b => slt a.name b.name) c.exceptions, sortS clauseLt c.clauses, sortS pairLt c.apart⟩) := by
    have h := HS.out
    rw [HAC.out, ← HL3.out, accS_end, HL3.out] at h
    exact h
   have z0 := objcell HS0.out.arg (j := 3) rfl
   have hsz := HS0.out.lt
   clear HAC HS hlen acc
   go_upto_region 34 with (fail)
   rename_i K3 hK3
   exact srt4 B S w _ c hK3 hS HS0
set_option maxRecDepth 100000 in
set_option maxHeartbeats 8000000 in
theorem srt2 {K1 K2 : Act → World → Prop} {x0 x4 x5 x6 x7 x8 x9 x10 x11 x12 x13 x14 x15 x16 x17 x18 x19 x20 x21 x22 x23 x24 x25 x26 x27 x28 x29 x30 x31 x32 x33 x34 x35 x36 x37 x38 x39 x40 x41 x42 x43 x44 x45 x46 x47 x48 x49 x50 x51 x52 x53 x54 x55 x56 x57 x58 x59 x60 x61 x62 x63 x64 x65 x66 x67 x68 x69 x70 x71 x72 x73 x74 x75 x76 x77 x78 x79 x80 x81 x82 x83 x84 x85 x86 x87 x88 x89 x90 x91 x92 x93 x94 x95 x96 x97 x98 x99 x100 x101 x102 x103 x104 x105 x106 x107 x108 x109 x110 x111 x112 x113 x114 x115 x116 x117 x118 x119 x120 x121 x122 x123 x124 x125 x126 x127 x128 x129 x130 x131 x132 x133 x134 x135 x136 x137 x138 x139 x140 x141 x142 x143 x144 x145 x146 x147 x148 x149 x150 x151 x152 x153 x154 x155 x156 x157 x158 x159 x160 x161 x162 x163 x164 x165 x166 x167 x168 x169 x170 x171 x172 x173 x174 x175 x176 x177 x178 x179 x180 x181 x182 x183 x184 x185 x186 x187 x188 x189 x190 x191 x192 x193 x194 x195 x196 x197 x198 x199 x200 x201 x202 x203 x204 x205 x206 x207 x208 x209 x210 x211 x212 x213 x214 x215 x216 x217 x218 x219 x220 x221 x222 x223 x224 x225 x226 x227 x228 x229 x230 x231 x232 x233 x234 x235 x236 x237 x238 x239 x240 x241 : Value} (B S : Nat) (w wr : World) (c : Catalog) (hK1 : ∀ a v, Code.wp Tryz.prog (srtTl (srtTl (srtTl (srtTl (srtTl (Tryz.f52.body.getD .skip)))))) (bodyPost Tryz.prog Tryz.f52 fun e w' => ∃ a0 a1 a2 a3, e = .returned (.agg #[a0, a1, a2, a3]) ∧ Below w.heap.size w w' ∧ RC B w' a0 a1 a2 a3 (sortC c)) a v → K1 a v) (hK2 : ∀ a v, Code.wp Tryz.prog (srtTl (srtHd (srtTl (srtTl (srtTl (srtTl (Tryz.f52.body.getD .skip))))))) (Exit.then K1 (bodyPost Tryz.prog Tryz.f52 fun e w' => ∃ a0 a1 a2 a3, e = .returned (.agg #[a0, a1, a2, a3]) ∧ Below w.heap.size w w' ∧ RC B w' a0 a1 a2 a3 (sortC c))) a v → K2 a v) (hS : w.heap.size = S) {p0 p1 p2 p3 : Option Addr} {m0 m1 m2 m3 N0 N1 N2 N3 : Nat} (HR : Hid (RC B w (.slice p0 N0 m0) (.slice p1 N1 m1) (.slice p2 N2 m2) (.slice p3 N3 m3) c)) (HL0 : Hid (c.licenses.length = N0)) (HL1 : Hid (c.exceptions.length = N1)) (HL2 : Hid (c.clauses.length = N2)) (HL3 : Hid (c.apart.length = N3)) (n0 : N0 ≤ 100000000) (n1 : N1 ≤ 100000000) (n2 : N2 ≤ 100000000) (n3 : N3 ≤ 100000000) {a0 : Option Addr} {q0 : Nat} {a1 : Option Addr} {q1 : Nat} (HS0 : Hid (SS B S w wr #[.slice p0 N0 m0, .slice p1 N1 m1, .slice p2 N2 m2, .slice p3 N3 m3] (.slice a0 N0 q0) (.slice a1 N1 q1) (.slice none 0 0) (.slice none 0 0) ⟨sortS (fun a b => slt a.name b.name) c.licenses, sortS (fun a b => slt a.name b.name) c.exceptions, [], []⟩)) :
  Code.wp Tryz.prog (srtHd (srtHd (srtTl (srtTl (srtTl (srtTl (Tryz.f52.body.getD .skip))))))) (Exit.then K2 (Exit.then K1 (bodyPost Tryz.prog Tryz.f52 fun e w' => ∃ a0 a1 a2 a3, e = .returned (.agg #[a0, a1, a2, a3]) ∧ Below w.heap.size w w' ∧ RC B w' a0 a1 a2 a3 (sortC c)))) ⟨#[x0, .pointer (some ⟨S, 0, none⟩), .pointer (some ⟨S + 1, 0, none⟩), .pointer (some ⟨S + 1 + 1, 0, none⟩), x4, x5, x6, x7, x8, x9, x10, x11, x12, x13, x14, x15, x16, x17, x18, x19, x20, x21, x22, x23, x24, x25, x26, x27, x28, x29, x30, x31, x32, x33, x34, x35, x36, x37, x38, x39, x40, x41, x42, x43, x44, x45, x46, x47, x48, x49, x50, x51, x52, x53, x54, x55, x56, x57, x58, x59, x60, x61, x62, x63, x64, x65, x66, x67, x68, x69, x70, x71, x72, x73, x74, x75, x76, x77, x78, x79, x80, x81, x82, x83, x84, x85, x86, x87, x88, x89, x90, x91, x92, x93, x94, x95, x96, x97, x98, x99, x100, x101, x102, x103, x104, x105, x106, x107, x108, x109, x110, x111, x112, x113, x114, x115, x116, x117, x118, x119, x120, x121, x122, x123, x124, x125, x126, x127, x128, x129, x130, x131, x132, x133, x134, x135, x136, x137, x138, x139, x140, x141, x142, x143, x144, x145, x146, x147, x148, x149, x150, x151, x152, x153, x154, x155, x156, x157, x158, x159, x160, x161, x162, x163, x164, x165, x166, x167, x168, x169, x170, x171, x172, x173, x174, x175, x176, x177, x178, x179, x180, x181, x182, x183, x184, x185, x186, x187, x188, x189, x190, x191, x192, x193, x194, x195, x196, x197, x198, x199, x200, x201, x202, x203, x204, x205, x206, x207, x208, x209, x210, x211, x212, x213, x214, x215, x216, x217, x218, x219, x220, x221, x222, x223, x224, x225, x226, x227, x228, x229, x230, x231, x232, x233, x234, x235, x236, x237, x238, x239, x240, x241], []⟩ wr := by
 change ∀ a v, Code.wp _ (Code.seq _ _) _ a v → _ at hK1
 change ∀ a v, Code.wp _ (Code.block _ _) _ a v → _ at hK2
 change Code.wp _ (Code.region _ _ _) _ _ _
 go_wp2
 go_loopw [8] (fun iv wr => ∃ (i : Nat) (a2 : Option Addr) (q2 : Nat) (acc : List Clause), i ≤ N2 ∧ iv = .int .i64 i ∧ acc.reverse.length = i ∧ Hid (acc = accS clauseLt c.clauses i) ∧ Hid (SS B S w wr #[.slice p0 N0 m0, .slice p1 N1 m1, .slice p2 N2 m2, .slice p3 N3 m3] (.slice a0 N0 q0) (.slice a1 N1 q1) (.slice a2 i q2) (.slice none 0 0) ⟨sortS (fun a b => slt a.name b.name) c.licenses, sortS (fun a b => slt a.name b.name) c.exceptions, acc.reverse, []⟩)) (fun iv _ => N2 - (intOf iv).toNat)
 case atStart => exact ⟨0, none, 0, [], Nat.zero_le _, by go_num, rfl, rfl, HS0⟩
 case round =>
  clear HS0
  obtain ⟨i, a2, q2, acc, hi, rfl, hlen, HAC, HS⟩ := hrel
  by_cases hlt : i < N2
  ·obtain ⟨x, hx⟩ := get_lt (xs := c.clauses) (k := i) (by rw [HL2.out]; exact hlt)
   have hlz : (i : Int) < (N2 : Int) := by omega
   obtain ⟨b, yy, rfl, -, -, hb, hyl, hcell, hkeep, -⟩ := HR.out.cla.elem hx
   obtain ⟨⟨la, ld, lc⟩, rfl⟩ := ofClause _ yy x hyl (hkeep _ (Agree.refl _ _ _))
   have hbw : Below w.heap.size w wr := by rw [hS]; exact HS.out.bel
   have e0 : wr.cell? ⟨b, i * 5, none⟩ = some (.string x.license) := kept hbw (hcell 0 _ rfl).1
   have e1 : wr.cell? ⟨b, i * 5 + 1, none⟩ = some (.int .i64 x.way) := kept hbw (hcell 1 _ rfl).1
   have e2 : wr.cell? ⟨b, i * 5 + 2, none⟩ = some (.int .i64 x.relation) := kept hbw (hcell 2 _ rfl).1
   have e3 : wr.cell? ⟨b, i * 5 + 3, none⟩ = some (.int .i64 x.duty) := kept hbw (hcell 3 _ rfl).1
   have e4 : wr.cell? ⟨b, i * 5 + 4, none⟩ = some (.slice la x.list.length lc) := kept hbw (hcell 4 _ rfl).1
   have z0 := objcell HS.out.arg (j := 2) rfl
   have y0 := objcell HS.out.out (j := 2) rfl
   have yf := objfrozen HS.out.out (j := 2)
   have hsz := HS.out.lt
   have hgb : b < wr.heap.size := cell_lt e0
   have hne2 := own_ne HS.out.rc.cla HS.out.out (by decide)
   have HX := Lib.hid hx
   have HK := Lib.hid hkeep
   clear hcell hbw hx hkeep hb hyl
   go_wp2
   apply share (H := fun a' c' w2 => Hid (SS B S w w2 #[.slice p0 N0 m0, .slice p1 N1 m1, .slice (some ⟨b, 0, none⟩) N2 m2, .slice p3 N3 m3] (.slice a0 N0 q0) (.slice a1 N1 q1) (.slice a' (i + 1) c') (.slice none 0 0) ⟨sortS (fun a b => slt a.name b.name) c.licenses, sortS (fun a b => slt a.name b.name) c.exceptions, acc.reverse ++ [x], []⟩))
   ·intro key
    go_region_law ((refine step_app2 clRow rfl (by decide) Tryz.underlying25 (by rfl) _ _ (by rfl) B S HS.out.le E6 (.slice a2 i q2) acc.reverse (by rfl) (by decide) (HS.out.rc.cla.below (by first | ((repeat (first | exact Below.refl _ _ | assumption | refine Below.drewN ?_ _ | refine Below.drew ?_ | refine Below.alloc ?_ (by first | exact Nat.le_refl _ | (simp; done) | (simp; omega) | omega) _ | refine Below.setCell ?_ (by first | exact Nat.le_refl _ | (simp; done) | (simp; omega) | omega) _ | refine Below.trans ?_ (Below.mono (by assumption) (by first | exact Nat.le_refl _ | (simp; done) | (simp; omega) | omega)))); done) | fail)) HS.out.g2 ⟨wr.heap.size, 0, none⟩ [.string x.license, .int .i64 x.way, .int .i64 x.relation, .int .i64 x.duty, .slice la x.list.length lc] x (by rfl) rfl (World.news_of_block (cs := #[.string x.license, .int .i64 x.way, .int .i64 x.relation, .int .i64 x.duty, .slice la x.list.length lc]) (t := 65) (fr := (0, 0)) (heap_alloc_new wr _)) (by simp [Value.oneCell']) (fun w'' hA => HK.out w'' ((Agree.of_below (by rw [hS]; exact HS.out.bel.trans (by first | ((repeat (first | exact Below.refl _ _ | assumption | refine Below.drewN ?_ _ | refine Below.drew ?_ | refine Below.alloc ?_ (by first | exact Nat.le_refl _ | (simp; done) | (simp; omega) | omega) _ | refine Below.setCell ?_ (by first | exact Nat.le_refl _ | (simp; done) | (simp; omega) | omega) _ | refine Below.trans ?_ (Below.mono (by assumption) (by first | exact Nat.le_refl _ | (simp; done) | (simp; omega) | omega)))); done) | fail))).trans hA)) (by rw [hlen]; omega) (by simp; omega) ?_; rw [hlen]; intro a' c' w1 ho1 hoG hg1; have hr6 := keep_g y0 (by first | ((repeat (first | exact Below.refl _ _ | assumption | refine Below.drewN ?_ _ | refine Below.drew ?_ | refine Below.alloc ?_ (by first | exact Nat.le_refl _ | (simp; done) | (simp; omega) | omega) _ | refine Below.setCell ?_ (by first | exact Nat.le_refl _ | (simp; done) | (simp; omega) | omega) _ | refine Below.trans ?_ (Below.mono (by assumption) (by first | exact Nat.le_refl _ | (simp; done) | (simp; omega) | omega)))); done) | fail) hg1 hne2; have hf6 := (hg1.frozen_far ⟨S + 1 + 1, 2, none⟩ (by simp; omega) hne2).trans (keptF (a := ⟨S + 1 + 1, 2, none⟩) (by first | ((repeat (first | exact Below.refl _ _ | assumption | refine Below.drewN ?_ _ | refine Below.drew ?_ | refine Below.alloc ?_ (by first | exact Nat.le_refl _ | (simp; done) | (simp; omega) | omega) _ | refine Below.setCell ?_ (by first | exact Nat.le_refl _ | (simp; done) | (simp; omega) | omega) _ | refine Below.trans ?_ (Below.mono (by assumption) (by first | exact Nat.le_refl _ | (simp; done) | (simp; omega) | omega)))); done) | fail) y0 yf)))
    all_goals
     have hgr1 := OwnL.grown (HS.out.rc.cla.below (by first | ((repeat (first | exact Below.refl _ _ | assumption | refine Below.drewN ?_ _ | refine Below.drew ?_ | refine Below.alloc ?_ (by first | exact Nat.le_refl _ | (simp; done) | (simp; omega) | omega) _ | refine Below.setCell ?_ (by first | exact Nat.le_refl _ | (simp; done) | (simp; omega) | omega) _ | refine Below.trans ?_ (Below.mono (by assumption) (by first | exact Nat.le_refl _ | (simp; done) | (simp; omega) | omega)))); done) | fail)) hg1 (by have := HS.out.le; simp; omega)
     have hgb1 := Below.grown (B := S) (Below.refl _ _) hg1 (by simp; omega) HS.out.g2
     have HS1 := Lib.hid ((HS.out.below (by first | ((repeat (first | exact Below.refl _ _ | assumption | refine Below.drewN ?_ _ | refine Below.drew ?_ | refine Below.alloc ?_ (by first | exact Nat.le_refl _ | (simp; done) | (simp; omega) | omega) _ | refine Below.setCell ?_ (by first | exact Nat.le_refl _ | (simp; done) | (simp; omega) | omega) _ | refine Below.trans ?_ (Below.mono (by assumption) (by first | exact Nat.le_refl _ | (simp; done) | (simp; omega) | omega)))); done) | fail)).set (j := 2) (by decide) hgb1 hgr1.2 rfl (HS.out.rc.set_cla (by first | ((repeat (first | exact Below.refl _ _ | assumption | refine Below.drewN ?_ _ | refine Below.drew ?_ | refine Below.alloc ?_ (by first | exact Nat.le_refl _ | (simp; done) | (simp; omega) | omega) _ | refine Below.setCell ?_ (by first | exact Nat.le_refl _ | (simp; done) | (simp; omega) | omega) _ | refine Below.trans ?_ (Below.mono (by assumption) (by first | exact Nat.le_refl _ | (simp; done) | (simp; omega) | omega)))); done) | fail) hgr1.2 ho1) HS.out.g0 HS.out.g1 hoG HS.out.g3)
     clear hgr1 hgb1 ho1 hoG hg1 hr6 hf6
     generalize w1.setCell ⟨S + 1 + 1, 2, none⟩ (.slice a' (i + 1) c') = w2 at HS1 ⊢
     exact key a' c' w2 HS1
   ·intro an qn w2 HS1
    clear e0 e1 e2 e3 e4 z0 y0 yf hsz hgb hne2 HS HK
    go_wp2
    generalize wr.heap.size = wz
    clear wr
    go_loopw [9] (fun kv wr => ∃ (k : Nat) (row : List Clause), k ≤ i ∧ kv = .int .i64 k ∧ Hid (InsI clauseLt x acc k row) ∧ Hid (SS B S w wr #[.slice p0 N0 m0, .slice p1 N1 m1, .slice (some ⟨b, 0, none⟩) N2 m2, .slice p3 N3 m3] (.slice a0 N0 q0) (.slice a1 N1 q1) (.slice an (i + 1) qn) (.slice none 0 0) ⟨sortS (fun a b => slt a.name b.name) c.licenses, sortS (fun a b => slt a.name b.name) c.exceptions, row, []⟩)) (fun kv _ => (intOf kv).toNat)
    case atStart => exact ⟨i, _, Nat.le_refl _, rfl, by have := InsI.start clauseLt x acc; simp only [List.length_reverse] at hlen; rw [hlen] at this; exact this, HS1⟩
    case round =>
     clear HS1
     obtain ⟨k, row, hki, rfl, HI, HS2⟩ := hrel
     cases k with
     | zero =>
      go_wp2
      go_quiet (fail)
      have HE : Hid (row = (accS clauseLt c.clauses (i + 1)).reverse) := by
       show _ = _
       rw [← accS_step clauseLt HX.out, ← HAC.out]; exact HI.out.ends
      generalize hdr : wr.drewN nq = wv
      have hbz : Below wr.heap.size wr wv := by rw [← hdr]; exact (by first | ((repeat (first | exact Below.refl _ _ | assumption | refine Below.drewN ?_ _ | refine Below.drew ?_ | refine Below.alloc ?_ (by first | exact Nat.le_refl _ | (simp; done) | (simp; omega) | omega) _ | refine Below.setCell ?_ (by first | exact Nat.le_refl _ | (simp; done) | (simp; omega) | omega) _ | refine Below.trans ?_ (Below.mono (by assumption) (by first | exact Nat.le_refl _ | (simp; done) | (simp; omega) | omega)))); done) | fail)
      clear hdr
      have HS3 := Lib.hid (HS2.out.below hbz)
      clear HS2 HI hbz
      clear wr
      go_wp2
      go_roundw
      case rel => exact ⟨i + 1, _, _, accS clauseLt c.clauses (i + 1), by omega, by go_num, by rw [List.length_reverse]; exact accS_length _ (by rw [HL2.out]; omega), rfl, by rw [HE.out] at HS3; exact HS3⟩
      case measure => simp [intOf]; omega
     | succ j =>
      obtain ⟨hxk, y, hyk, hstop, hgo⟩ := HI.out.here
      obtain ⟨g, cx, rfl, -, hg, hgl, lx, fx, sx, hcur⟩ := HS2.out.rc.cla.elem hxk
      have ix := sx _ (Agree.refl _ _ _)
      obtain ⟨⟨ja, jd, jc⟩, rfl⟩ := ofClause _ cx x lx ix
      obtain ⟨g', cy, he, -, -, -, ly, fy, sy, -⟩ := HS2.out.rc.cla.elem hyk
      cases he
      have iy := sy _ (Agree.refl _ _ _)
      obtain ⟨⟨ka, kd, kc⟩, rfl⟩ := ofClause _ cy y ly iy
      have y0 := objcell HS2.out.out (j := 2) rfl
      have hwj : IntKind.i64.wrap (j : Int) = j := IntWalk.i64_in _ (by omega)
      have HST := Lib.hid hstop
      have HGO := Lib.hid hgo
      have HXK := Lib.hid hxk
      have HYK := Lib.hid hyk
      have e0 : wr.cell? ⟨g, (j + 1) * 5, none⟩ = some (.string x.license) := (fx 0 _ rfl).1
      have e1 : wr.cell? ⟨g, (j + 1) * 5 + 1, none⟩ = some (.int .i64 x.way) := (fx 1 _ rfl).1
      have e2 : wr.cell? ⟨g, (j + 1) * 5 + 2, none⟩ = some (.int .i64 x.relation) := (fx 2 _ rfl).1
      have e3 : wr.cell? ⟨g, (j + 1) * 5 + 3, none⟩ = some (.int .i64 x.duty) := (fx 3 _ rfl).1
      have e4 : wr.cell? ⟨g, (j + 1) * 5 + 4, none⟩ = some (.slice ja x.list.length jc) := (fx 4 _ rfl).1
      have f0 : wr.cell? ⟨g, j * 5, none⟩ = some (.string y.license) := (fy 0 _ rfl).1
      have f1 : wr.cell? ⟨g, j * 5 + 1, none⟩ = some (.int .i64 y.way) := (fy 1 _ rfl).1
      have f2 : wr.cell? ⟨g, j * 5 + 2, none⟩ = some (.int .i64 y.relation) := (fy 2 _ rfl).1
      have f3 : wr.cell? ⟨g, j * 5 + 3, none⟩ = some (.int .i64 y.duty) := (fy 3 _ rfl).1
      have f4 : wr.cell? ⟨g, j * 5 + 4, none⟩ = some (.slice ka y.list.length kc) := (fy 4 _ rfl).1
      have ISX := Lib.hid (fun w' hA => is_enc (w := w') lx rfl (sx w' hA))
      have ISY := Lib.hid (fun w' hA => is_enc (w := w') ly rfl (sy w' hA))
      have b1 : j + 1 < i + 1 := by omega
      have b2 : j < i + 1 := by omega
      have b3 : (j : Int) + 1 < (i : Int) + 1 := by omega
      have b4 : (j : Int) < (i : Int) + 1 := by omega
      have b5 : (0 : Int) ≤ (j : Int) + 1 := by omega
      have b6 : ((j : Int) + 1).toNat = j + 1 := by omega
      clear hstop hgo hxk hyk fx sx fy sy lx ly hcur ix iy
      go_wp2
      refine still_tail 14 (by kernel_rfl) (by kernel_rfl) ?_
      simp only [List.take_succ_cons, List.take_zero, List.drop_succ_cons, List.drop_zero]
      repeat still_step
      refine wpStill_nil ?_
      clear hwj
      go_wp2_with fail
      refine (Less_ref _ _ _ x y (ISX.out _ (Agree.of_below (by first | ((repeat (first | exact Below.refl _ _ | assumption | refine Below.drewN ?_ _ | refine Below.drew ?_ | refine Below.alloc ?_ (by first | exact Nat.le_refl _ | (simp; done) | (simp; omega) | omega) _ | refine Below.setCell ?_ (by first | exact Nat.le_refl _ | (simp; done) | (simp; omega) | omega) _ | refine Below.trans ?_ (Below.mono (by assumption) (by first | exact Nat.le_refl _ | (simp; done) | (simp; omega) | omega)))); done) | fail))) (ISY.out _ (Agree.of_below (by first | ((repeat (first | exact Below.refl _ _ | assumption | refine Below.drewN ?_ _ | refine Below.drew ?_ | refine Below.alloc ?_ (by first | exact Nat.le_refl _ | (simp; done) | (simp; omega) | omega) _ | refine Below.setCell ?_ (by first | exact Nat.le_refl _ | (simp; done) | (simp; omega) | omega) _ | refine Below.trans ?_ (Below.mono (by assumption) (by first | exact Nat.le_refl _ | (simp; done) | (simp; omega) | omega)))); done) | fail)))).mono ?_
      rintro e wv ⟨rfl, hb3⟩
      have hbz : Below wr.heap.size wr wv := ((Below.refl wr.heap.size wr).drew).trans hb3
      have hwj : IntKind.i64.wrap (j : Int) = j := IntWalk.i64_in _ (by omega)
      clear hb3 ISX ISY b1 b2 b3 b4 b5 b6
      cases q : clauseLt x y
      case false =>
       have HE : Hid (row = (accS clauseLt c.clauses (i + 1)).reverse) := by
        show _ = _
        rw [← accS_step clauseLt HX.out, ← HAC.out]; exact HST.out q
       have HS3 := Lib.hid (HS2.out.below hbz)
       clear e0 f0 e1 f1 e2 f2 e3 f3 e4 f4 y0 HS2 HI HST HGO hbz hgl
       clear wr
       go_wp2
       go_roundw
       case rel => exact ⟨i + 1, _, _, accS clauseLt c.clauses (i + 1), by omega, by go_num, by rw [List.length_reverse]; exact accS_length _ (by rw [HL2.out]; omega), rfl, by rw [HE.out] at HS3; exact HS3⟩
       case measure => simp [intOf]; omega
      case true =>
       have HS3 := Lib.hid (HS2.out.below hbz)
       have HI4 := Lib.hid (HGO.out q)
       clear e0 f0 e1 f1 e2 f2 e3 f3 e4 f4 y0 HS2 HI HST HGO hbz hgl
       clear wr
       obtain ⟨kk, hkk⟩ : ∃ k, k = Lay.n Clause := ⟨_, rfl⟩
       have zE : ∀ w, (Go.sizeOf 65).run Tryz.prog w = .ok kk w := by rw [hkk]; exact Tryz.sizeOf65
       obtain ⟨g', cx, cy, he, -, hgB, hgl, lx, ly, hcur, ld1, ld2, st1, st2, ho, hA, -⟩ := (HS3.out.rc.cla.below (w' := wv.drew) (by first | ((repeat (first | exact Below.refl _ _ | assumption | refine Below.drewN ?_ _ | refine Below.drew ?_ | refine Below.alloc ?_ (by first | exact Nat.le_refl _ | (simp; done) | (simp; omega) | omega) _ | refine Below.setCell ?_ (by first | exact Nat.le_refl _ | (simp; done) | (simp; omega) | omega) _ | refine Below.trans ?_ (Below.mono (by assumption) (by first | exact Nat.le_refl _ | (simp; done) | (simp; omega) | omega)))); done) | fail)).swap (by decide) oneCla HXK.out HYK.out
       cases he
       rw [← hkk] at lx ly ld1 ld2 st1 st2 ho hA
       have hgS : S ≤ g := HS3.out.g2.at
       have hbs : Below S wv.drew ((wv.drew.setCells g ((j + 1) * kk) cy).setCells g (j * kk) cx) := below_setCellsO hgS _ _ _ _ (below_setCellsO hgS _ _ _ _ (Below.refl _ _))
       have l1 := ld1 Tryz.prog
       have l2 := ld2 Tryz.prog
       have t1 := st1 Tryz.prog
       have t2 := st2 Tryz.prog
       have y0 := objcell HS3.out.out (j := 2) rfl
       have hSz := HS3.out.lt
       have hgne : S + 1 + 1 ≠ g := fun e => own_ne HS3.out.rc.cla HS3.out.out (by decide) (by rw [e]; rfl)
       have y1 : (wv.drew.setCells g ((j + 1) * kk) cy).cell? ⟨S + 1 + 1, 2, none⟩ = some (.slice (some ⟨g, 0, none⟩) (i + 1) qn) := by
        rw [World.cell?_setCells_out g _ _ _ _ (fun e _ => absurd e hgne)]; simpa using y0
       have HS4 : Hid (SS B S w ((wv.drew.setCells g ((j + 1) * kk) cy).setCells g (j * kk) cx) #[.slice p0 N0 m0, .slice p1 N1 m1, .slice (some ⟨b, 0, none⟩) N2 m2, .slice p3 N3 m3] (.slice a0 N0 q0) (.slice a1 N1 q1) (.slice (some ⟨g, 0, none⟩) (i + 1) qn) (.slice none 0 0) ⟨sortS (fun a b => slt a.name b.name) c.licenses, sortS (fun a b => slt a.name b.name) c.exceptions, (row.set (j + 1) y).set j x, []⟩) :=
        (HS3.out.below (w' := wv.drew) (by first | ((repeat (first | exact Below.refl _ _ | assumption | refine Below.drewN ?_ _ | refine Below.drew ?_ | refine Below.alloc ?_ (by first | exact Nat.le_refl _ | (simp; done) | (simp; omega) | omega) _ | refine Below.setCell ?_ (by first | exact Nat.le_refl _ | (simp; done) | (simp; omega) | omega) _ | refine Below.trans ?_ (Below.mono (by assumption) (by first | exact Nat.le_refl _ | (simp; done) | (simp; omega) | omega)))); done) | fail)).swp (by decide) hbs hA ((HS3.out.below (w' := wv.drew) (by first | ((repeat (first | exact Below.refl _ _ | assumption | refine Below.drewN ?_ _ | refine Below.drew ?_ | refine Below.alloc ?_ (by first | exact Nat.le_refl _ | (simp; done) | (simp; omega) | omega) _ | refine Below.setCell ?_ (by first | exact Nat.le_refl _ | (simp; done) | (simp; omega) | omega) _ | refine Below.trans ?_ (Below.mono (by assumption) (by first | exact Nat.le_refl _ | (simp; done) | (simp; omega) | omega)))); done) | fail)).rc.set_cla (Below.refl _ _) hA ho)
       have mixed : Tryz.prog.follows .mixedOrders = true := by kernel_rfl
       have aE := Tryz.isAgg65
       clear ld1 ld2 st1 st2 ho hA hbs hcur hkk
       go_wp2
       go_big_region_o
       clear l1 l2 t1 t2
       generalize (wv.drew.setCells g ((j + 1) * kk) cy).setCells g (j * kk) cx = w4 at HS4 ⊢
       go_wp2
       go_roundw
       case rel => exact ⟨j, _, by omega, by go_num, HI4, HS4⟩
       case measure => simp [intOf]
  ·obtain rfl : N2 = i := by omega
   have HS0 : Hid (SS B S w wr #[.slice p0 N0 m0, .slice p1 N1 m1, .slice p2 N2 m2, .slice p3 N3 m3] (.slice a0 N0 q0) (.slice a1 N1 q1) (.slice a2 N2 q2) (.slice none 0 0) ⟨sortS (fun a b => slt a.name b.name) c.licenses, sortS (fun a b => slt a.name b.name) c.exceptions, sortS clauseLt c.clauses, []⟩) := by
    have h := HS.out
    rw [HAC.out, ← HL2.out, accS_end, HL2.out] at h
    exact h
   have z0 := objcell HS0.out.arg (j := 2) rfl
   have hsz := HS0.out.lt
   clear HAC HS hlen acc
   go_upto_region 26 with (fail)
   rename_i K3 hK3 K4 hK4
   exact srt3 B S w _ c hK3 hK4 hS HR HL0 HL1 HL2 HL3 n0 n1 n2 n3 HS0
set_option maxRecDepth 100000 in
set_option maxHeartbeats 8000000 in
theorem srt1 {K1 K2 : Act → World → Prop} {x0 x4 x5 x6 x7 x8 x9 x10 x11 x12 x13 x14 x15 x16 x17 x18 x19 x20 x21 x22 x23 x24 x25 x26 x27 x28 x29 x30 x31 x32 x33 x34 x35 x36 x37 x38 x39 x40 x41 x42 x43 x44 x45 x46 x47 x48 x49 x50 x51 x52 x53 x54 x55 x56 x57 x58 x59 x60 x61 x62 x63 x64 x65 x66 x67 x68 x69 x70 x71 x72 x73 x74 x75 x76 x77 x78 x79 x80 x81 x82 x83 x84 x85 x86 x87 x88 x89 x90 x91 x92 x93 x94 x95 x96 x97 x98 x99 x100 x101 x102 x103 x104 x105 x106 x107 x108 x109 x110 x111 x112 x113 x114 x115 x116 x117 x118 x119 x120 x121 x122 x123 x124 x125 x126 x127 x128 x129 x130 x131 x132 x133 x134 x135 x136 x137 x138 x139 x140 x141 x142 x143 x144 x145 x146 x147 x148 x149 x150 x151 x152 x153 x154 x155 x156 x157 x158 x159 x160 x161 x162 x163 x164 x165 x166 x167 x168 x169 x170 x171 x172 x173 x174 x175 x176 x177 x178 x179 x180 x181 x182 x183 x184 x185 x186 x187 x188 x189 x190 x191 x192 x193 x194 x195 x196 x197 x198 x199 x200 x201 x202 x203 x204 x205 x206 x207 x208 x209 x210 x211 x212 x213 x214 x215 x216 x217 x218 x219 x220 x221 x222 x223 x224 x225 x226 x227 x228 x229 x230 x231 x232 x233 x234 x235 x236 x237 x238 x239 x240 x241 : Value} (B S : Nat) (w wr : World) (c : Catalog) (hK1 : ∀ a v, Code.wp Tryz.prog (srtTl (srtTl (srtTl (srtTl (Tryz.f52.body.getD .skip))))) (bodyPost Tryz.prog Tryz.f52 fun e w' => ∃ a0 a1 a2 a3, e = .returned (.agg #[a0, a1, a2, a3]) ∧ Below w.heap.size w w' ∧ RC B w' a0 a1 a2 a3 (sortC c)) a v → K1 a v) (hK2 : ∀ a v, Code.wp Tryz.prog (srtTl (srtHd (srtTl (srtTl (srtTl (Tryz.f52.body.getD .skip)))))) (Exit.then K1 (bodyPost Tryz.prog Tryz.f52 fun e w' => ∃ a0 a1 a2 a3, e = .returned (.agg #[a0, a1, a2, a3]) ∧ Below w.heap.size w w' ∧ RC B w' a0 a1 a2 a3 (sortC c))) a v → K2 a v) (hS : w.heap.size = S) {p0 p1 p2 p3 : Option Addr} {m0 m1 m2 m3 N0 N1 N2 N3 : Nat} (HR : Hid (RC B w (.slice p0 N0 m0) (.slice p1 N1 m1) (.slice p2 N2 m2) (.slice p3 N3 m3) c)) (HL0 : Hid (c.licenses.length = N0)) (HL1 : Hid (c.exceptions.length = N1)) (HL2 : Hid (c.clauses.length = N2)) (HL3 : Hid (c.apart.length = N3)) (n0 : N0 ≤ 100000000) (n1 : N1 ≤ 100000000) (n2 : N2 ≤ 100000000) (n3 : N3 ≤ 100000000) {a0 : Option Addr} {q0 : Nat} (HS0 : Hid (SS B S w wr #[.slice p0 N0 m0, .slice p1 N1 m1, .slice p2 N2 m2, .slice p3 N3 m3] (.slice a0 N0 q0) (.slice none 0 0) (.slice none 0 0) (.slice none 0 0) ⟨sortS (fun a b => slt a.name b.name) c.licenses, [], [], []⟩)) :
  Code.wp Tryz.prog (srtHd (srtHd (srtTl (srtTl (srtTl (Tryz.f52.body.getD .skip)))))) (Exit.then K2 (Exit.then K1 (bodyPost Tryz.prog Tryz.f52 fun e w' => ∃ a0 a1 a2 a3, e = .returned (.agg #[a0, a1, a2, a3]) ∧ Below w.heap.size w w' ∧ RC B w' a0 a1 a2 a3 (sortC c)))) ⟨#[x0, .pointer (some ⟨S, 0, none⟩), .pointer (some ⟨S + 1, 0, none⟩), .pointer (some ⟨S + 1 + 1, 0, none⟩), x4, x5, x6, x7, x8, x9, x10, x11, x12, x13, x14, x15, x16, x17, x18, x19, x20, x21, x22, x23, x24, x25, x26, x27, x28, x29, x30, x31, x32, x33, x34, x35, x36, x37, x38, x39, x40, x41, x42, x43, x44, x45, x46, x47, x48, x49, x50, x51, x52, x53, x54, x55, x56, x57, x58, x59, x60, x61, x62, x63, x64, x65, x66, x67, x68, x69, x70, x71, x72, x73, x74, x75, x76, x77, x78, x79, x80, x81, x82, x83, x84, x85, x86, x87, x88, x89, x90, x91, x92, x93, x94, x95, x96, x97, x98, x99, x100, x101, x102, x103, x104, x105, x106, x107, x108, x109, x110, x111, x112, x113, x114, x115, x116, x117, x118, x119, x120, x121, x122, x123, x124, x125, x126, x127, x128, x129, x130, x131, x132, x133, x134, x135, x136, x137, x138, x139, x140, x141, x142, x143, x144, x145, x146, x147, x148, x149, x150, x151, x152, x153, x154, x155, x156, x157, x158, x159, x160, x161, x162, x163, x164, x165, x166, x167, x168, x169, x170, x171, x172, x173, x174, x175, x176, x177, x178, x179, x180, x181, x182, x183, x184, x185, x186, x187, x188, x189, x190, x191, x192, x193, x194, x195, x196, x197, x198, x199, x200, x201, x202, x203, x204, x205, x206, x207, x208, x209, x210, x211, x212, x213, x214, x215, x216, x217, x218, x219, x220, x221, x222, x223, x224, x225, x226, x227, x228, x229, x230, x231, x232, x233, x234, x235, x236, x237, x238, x239, x240, x241], []⟩ wr := by
 change ∀ a v, Code.wp _ (Code.seq _ _) _ a v → _ at hK1
 change ∀ a v, Code.wp _ (Code.block _ _) _ a v → _ at hK2
 change Code.wp _ (Code.region _ _ _) _ _ _
 go_wp2
 go_loopw [6] (fun iv wr => ∃ (i : Nat) (a1 : Option Addr) (q1 : Nat) (acc : List Exc), i ≤ N1 ∧ iv = .int .i64 i ∧ acc.reverse.length = i ∧ Hid (acc = accS (fun a b => slt a.name b.name) c.exceptions i) ∧ Hid (SS B S w wr #[.slice p0 N0 m0, .slice p1 N1 m1, .slice p2 N2 m2, .slice p3 N3 m3] (.slice a0 N0 q0) (.slice a1 i q1) (.slice none 0 0) (.slice none 0 0) ⟨sortS (fun a b => slt a.name b.name) c.licenses, acc.reverse, [], []⟩)) (fun iv _ => N1 - (intOf iv).toNat)
 case atStart => exact ⟨0, none, 0, [], Nat.zero_le _, by go_num, rfl, rfl, HS0⟩
 case round =>
  clear HS0
  obtain ⟨i, a1, q1, acc, hi, rfl, hlen, HAC, HS⟩ := hrel
  by_cases hlt : i < N1
  ·obtain ⟨x, hx⟩ := get_lt (xs := c.exceptions) (k := i) (by rw [HL1.out]; exact hlt)
   have hlz : (i : Int) < (N1 : Int) := by omega
   obtain ⟨b, yy, rfl, -, -, hb, hyl, hcell, hkeep, -⟩ := HR.out.exc.elem hx
   obtain ⟨⟨la, ld, lc⟩, rfl⟩ := ofExc _ yy x hyl (hkeep _ (Agree.refl _ _ _))
   have hbw : Below w.heap.size w wr := by rw [hS]; exact HS.out.bel
   have e0 : wr.cell? ⟨b, i * 3, none⟩ = some (.string x.name) := kept hbw (hcell 0 _ rfl).1
   have e1 : wr.cell? ⟨b, i * 3 + 1, none⟩ = some (.string x.license) := kept hbw (hcell 1 _ rfl).1
   have e2 : wr.cell? ⟨b, i * 3 + 2, none⟩ = some (.slice la x.lifts.length lc) := kept hbw (hcell 2 _ rfl).1
   have z0 := objcell HS.out.arg (j := 1) rfl
   have y0 := objcell HS.out.out (j := 1) rfl
   have yf := objfrozen HS.out.out (j := 1)
   have hsz := HS.out.lt
   have hgb : b < wr.heap.size := cell_lt e0
   have hne2 := own_ne HS.out.rc.exc HS.out.out (by decide)
   have HX := Lib.hid hx
   have HK := Lib.hid hkeep
   clear hcell hbw hx hkeep hb hyl
   go_wp2
   apply share (H := fun a' c' w2 => Hid (SS B S w w2 #[.slice p0 N0 m0, .slice (some ⟨b, 0, none⟩) N1 m1, .slice p2 N2 m2, .slice p3 N3 m3] (.slice a0 N0 q0) (.slice a' (i + 1) c') (.slice none 0 0) (.slice none 0 0) ⟨sortS (fun a b => slt a.name b.name) c.licenses, acc.reverse ++ [x], [], []⟩))
   ·intro key
    go_region_law ((refine step_app2 excRow rfl (by decide) Tryz.underlying24 (by rfl) _ _ (by rfl) B S HS.out.le E6 (.slice a1 i q1) acc.reverse (by rfl) (by decide) (HS.out.rc.exc.below (by first | ((repeat (first | exact Below.refl _ _ | assumption | refine Below.drewN ?_ _ | refine Below.drew ?_ | refine Below.alloc ?_ (by first | exact Nat.le_refl _ | (simp; done) | (simp; omega) | omega) _ | refine Below.setCell ?_ (by first | exact Nat.le_refl _ | (simp; done) | (simp; omega) | omega) _ | refine Below.trans ?_ (Below.mono (by assumption) (by first | exact Nat.le_refl _ | (simp; done) | (simp; omega) | omega)))); done) | fail)) HS.out.g1 ⟨wr.heap.size, 0, none⟩ [.string x.name, .string x.license, .slice la x.lifts.length lc] x (by rfl) rfl (World.news_of_block (cs := #[.string x.name, .string x.license, .slice la x.lifts.length lc]) (t := 62) (fr := (0, 0)) (heap_alloc_new wr _)) (by simp [Value.oneCell']) (fun w'' hA => HK.out w'' ((Agree.of_below (by rw [hS]; exact HS.out.bel.trans (by first | ((repeat (first | exact Below.refl _ _ | assumption | refine Below.drewN ?_ _ | refine Below.drew ?_ | refine Below.alloc ?_ (by first | exact Nat.le_refl _ | (simp; done) | (simp; omega) | omega) _ | refine Below.setCell ?_ (by first | exact Nat.le_refl _ | (simp; done) | (simp; omega) | omega) _ | refine Below.trans ?_ (Below.mono (by assumption) (by first | exact Nat.le_refl _ | (simp; done) | (simp; omega) | omega)))); done) | fail))).trans hA)) (by rw [hlen]; omega) (by simp; omega) ?_; rw [hlen]; intro a' c' w1 ho1 hoG hg1; have hr6 := keep_g y0 (by first | ((repeat (first | exact Below.refl _ _ | assumption | refine Below.drewN ?_ _ | refine Below.drew ?_ | refine Below.alloc ?_ (by first | exact Nat.le_refl _ | (simp; done) | (simp; omega) | omega) _ | refine Below.setCell ?_ (by first | exact Nat.le_refl _ | (simp; done) | (simp; omega) | omega) _ | refine Below.trans ?_ (Below.mono (by assumption) (by first | exact Nat.le_refl _ | (simp; done) | (simp; omega) | omega)))); done) | fail) hg1 hne2; have hf6 := (hg1.frozen_far ⟨S + 1 + 1, 1, none⟩ (by simp; omega) hne2).trans (keptF (a := ⟨S + 1 + 1, 1, none⟩) (by first | ((repeat (first | exact Below.refl _ _ | assumption | refine Below.drewN ?_ _ | refine Below.drew ?_ | refine Below.alloc ?_ (by first | exact Nat.le_refl _ | (simp; done) | (simp; omega) | omega) _ | refine Below.setCell ?_ (by first | exact Nat.le_refl _ | (simp; done) | (simp; omega) | omega) _ | refine Below.trans ?_ (Below.mono (by assumption) (by first | exact Nat.le_refl _ | (simp; done) | (simp; omega) | omega)))); done) | fail) y0 yf)))
    all_goals
     have hgr1 := OwnL.grown (HS.out.rc.exc.below (by first | ((repeat (first | exact Below.refl _ _ | assumption | refine Below.drewN ?_ _ | refine Below.drew ?_ | refine Below.alloc ?_ (by first | exact Nat.le_refl _ | (simp; done) | (simp; omega) | omega) _ | refine Below.setCell ?_ (by first | exact Nat.le_refl _ | (simp; done) | (simp; omega) | omega) _ | refine Below.trans ?_ (Below.mono (by assumption) (by first | exact Nat.le_refl _ | (simp; done) | (simp; omega) | omega)))); done) | fail)) hg1 (by have := HS.out.le; simp; omega)
     have hgb1 := Below.grown (B := S) (Below.refl _ _) hg1 (by simp; omega) HS.out.g1
     have HS1 := Lib.hid ((HS.out.below (by first | ((repeat (first | exact Below.refl _ _ | assumption | refine Below.drewN ?_ _ | refine Below.drew ?_ | refine Below.alloc ?_ (by first | exact Nat.le_refl _ | (simp; done) | (simp; omega) | omega) _ | refine Below.setCell ?_ (by first | exact Nat.le_refl _ | (simp; done) | (simp; omega) | omega) _ | refine Below.trans ?_ (Below.mono (by assumption) (by first | exact Nat.le_refl _ | (simp; done) | (simp; omega) | omega)))); done) | fail)).set (j := 1) (by decide) hgb1 hgr1.2 rfl (HS.out.rc.set_exc (by first | ((repeat (first | exact Below.refl _ _ | assumption | refine Below.drewN ?_ _ | refine Below.drew ?_ | refine Below.alloc ?_ (by first | exact Nat.le_refl _ | (simp; done) | (simp; omega) | omega) _ | refine Below.setCell ?_ (by first | exact Nat.le_refl _ | (simp; done) | (simp; omega) | omega) _ | refine Below.trans ?_ (Below.mono (by assumption) (by first | exact Nat.le_refl _ | (simp; done) | (simp; omega) | omega)))); done) | fail) hgr1.2 ho1) HS.out.g0 hoG HS.out.g2 HS.out.g3)
     clear hgr1 hgb1 ho1 hoG hg1 hr6 hf6
     generalize w1.setCell ⟨S + 1 + 1, 1, none⟩ (.slice a' (i + 1) c') = w2 at HS1 ⊢
     exact key a' c' w2 HS1
   ·intro an qn w2 HS1
    clear e0 e1 e2 z0 y0 yf hsz hgb hne2 HS HK
    go_wp2
    generalize wr.heap.size = wz
    clear wr
    go_loopw [7] (fun kv wr => ∃ (k : Nat) (row : List Exc), k ≤ i ∧ kv = .int .i64 k ∧ Hid (InsI (fun a b => slt a.name b.name) x acc k row) ∧ Hid (SS B S w wr #[.slice p0 N0 m0, .slice (some ⟨b, 0, none⟩) N1 m1, .slice p2 N2 m2, .slice p3 N3 m3] (.slice a0 N0 q0) (.slice an (i + 1) qn) (.slice none 0 0) (.slice none 0 0) ⟨sortS (fun a b => slt a.name b.name) c.licenses, row, [], []⟩)) (fun kv _ => (intOf kv).toNat)
    case atStart => exact ⟨i, _, Nat.le_refl _, rfl, by have := InsI.start (fun (a b : Exc) => slt a.name b.name) x acc; simp only [List.length_reverse] at hlen; rw [hlen] at this; exact this, HS1⟩
    case round =>
     clear HS1
     obtain ⟨k, row, hki, rfl, HI, HS2⟩ := hrel
     cases k with
     | zero =>
      go_wp2
      go_quiet (fail)
      have HE : Hid (row = (accS (fun a b => slt a.name b.name) c.exceptions (i + 1)).reverse) := by
       show _ = _
       rw [← accS_step (fun (a b : Exc) => slt a.name b.name) HX.out, ← HAC.out]; exact HI.out.ends
      generalize hdr : wr.drewN nq = wv
      have hbz : Below wr.heap.size wr wv := by rw [← hdr]; exact (by first | ((repeat (first | exact Below.refl _ _ | assumption | refine Below.drewN ?_ _ | refine Below.drew ?_ | refine Below.alloc ?_ (by first | exact Nat.le_refl _ | (simp; done) | (simp; omega) | omega) _ | refine Below.setCell ?_ (by first | exact Nat.le_refl _ | (simp; done) | (simp; omega) | omega) _ | refine Below.trans ?_ (Below.mono (by assumption) (by first | exact Nat.le_refl _ | (simp; done) | (simp; omega) | omega)))); done) | fail)
      clear hdr
      have HS3 := Lib.hid (HS2.out.below hbz)
      clear HS2 HI hbz
      clear wr
      go_wp2
      go_roundw
      case rel => exact ⟨i + 1, _, _, accS (fun a b => slt a.name b.name) c.exceptions (i + 1), by omega, by go_num, by rw [List.length_reverse]; exact accS_length _ (by rw [HL1.out]; omega), rfl, by rw [HE.out] at HS3; exact HS3⟩
      case measure => simp [intOf]; omega
     | succ j =>
      obtain ⟨hxk, y, hyk, hstop, hgo⟩ := HI.out.here
      obtain ⟨g, cx, rfl, -, hg, hgl, lx, fx, sx, hcur⟩ := HS2.out.rc.exc.elem hxk
      have ix := sx _ (Agree.refl _ _ _)
      obtain ⟨⟨ja, jd, jc⟩, rfl⟩ := ofExc _ cx x lx ix
      obtain ⟨g', cy, he, -, -, -, ly, fy, sy, -⟩ := HS2.out.rc.exc.elem hyk
      cases he
      have iy := sy _ (Agree.refl _ _ _)
      obtain ⟨⟨ka, kd, kc⟩, rfl⟩ := ofExc _ cy y ly iy
      have y0 := objcell HS2.out.out (j := 1) rfl
      have hwj : IntKind.i64.wrap (j : Int) = j := IntWalk.i64_in _ (by omega)
      have HST := Lib.hid hstop
      have HGO := Lib.hid hgo
      have HXK := Lib.hid hxk
      have HYK := Lib.hid hyk
      have e0 : wr.cell? ⟨g, (j + 1) * 3, none⟩ = some (.string x.name) := (fx 0 _ rfl).1
      have e1 : wr.cell? ⟨g, j * 3, none⟩ = some (.string y.name) := (fy 0 _ rfl).1
      clear hstop hgo hxk hyk fx sx fy sy lx ly hcur ix iy
      cases q : Op.bytesLess x.name.toList y.name.toList
      case false =>
       go_wp2
       go_quiet (fail)
       generalize hdr : wr.drewN nq = wv
       have hbz : Below wr.heap.size wr wv := by rw [← hdr]; exact (by first | ((repeat (first | exact Below.refl _ _ | assumption | refine Below.drewN ?_ _ | refine Below.drew ?_ | refine Below.alloc ?_ (by first | exact Nat.le_refl _ | (simp; done) | (simp; omega) | omega) _ | refine Below.setCell ?_ (by first | exact Nat.le_refl _ | (simp; done) | (simp; omega) | omega) _ | refine Below.trans ?_ (Below.mono (by assumption) (by first | exact Nat.le_refl _ | (simp; done) | (simp; omega) | omega)))); done) | fail)
       clear hdr
       have HE : Hid (row = (accS (fun a b => slt a.name b.name) c.exceptions (i + 1)).reverse) := by
        show _ = _
        rw [← accS_step (fun (a b : Exc) => slt a.name b.name) HX.out, ← HAC.out]; exact HST.out q
       have HS3 := Lib.hid (HS2.out.below hbz)
       clear e0 e1 y0 HS2 HI HST HGO hbz hgl
       clear wr
       go_wp2
       go_roundw
       case rel => exact ⟨i + 1, _, _, accS (fun a b => slt a.name b.name) c.exceptions (i + 1), by omega, by go_num, by rw [List.length_reverse]; exact accS_length _ (by rw [HL1.out]; omega), rfl, by rw [HE.out] at HS3; exact HS3⟩
       case measure => simp [intOf]; omega
      case true =>
       go_wp2
       go_quiet (fail)
       generalize hdr : wr.drewN nq = wv
       have hbz : Below wr.heap.size wr wv := by rw [← hdr]; exact (by first | ((repeat (first | exact Below.refl _ _ | assumption | refine Below.drewN ?_ _ | refine Below.drew ?_ | refine Below.alloc ?_ (by first | exact Nat.le_refl _ | (simp; done) | (simp; omega) | omega) _ | refine Below.setCell ?_ (by first | exact Nat.le_refl _ | (simp; done) | (simp; omega) | omega) _ | refine Below.trans ?_ (Below.mono (by assumption) (by first | exact Nat.le_refl _ | (simp; done) | (simp; omega) | omega)))); done) | fail)
       clear hdr
       have HS3 := Lib.hid (HS2.out.below hbz)
       have HI4 := Lib.hid (HGO.out q)
       clear e0 e1 y0 HS2 HI HST HGO hbz hgl
       clear wr
       obtain ⟨kk, hkk⟩ : ∃ k, k = Lay.n Exc := ⟨_, rfl⟩
       have zE : ∀ w, (Go.sizeOf 62).run Tryz.prog w = .ok kk w := by rw [hkk]; exact Tryz.sizeOf62
       obtain ⟨g', cx, cy, he, -, hgB, hgl, lx, ly, hcur, ld1, ld2, st1, st2, ho, hA, -⟩ := (HS3.out.rc.exc.below (w' := wv.drew) (by first | ((repeat (first | exact Below.refl _ _ | assumption | refine Below.drewN ?_ _ | refine Below.drew ?_ | refine Below.alloc ?_ (by first | exact Nat.le_refl _ | (simp; done) | (simp; omega) | omega) _ | refine Below.setCell ?_ (by first | exact Nat.le_refl _ | (simp; done) | (simp; omega) | omega) _ | refine Below.trans ?_ (Below.mono (by assumption) (by first | exact Nat.le_refl _ | (simp; done) | (simp; omega) | omega)))); done) | fail)).swap (by decide) oneExc HXK.out HYK.out
       cases he
       rw [← hkk] at lx ly ld1 ld2 st1 st2 ho hA
       have hgS : S ≤ g := HS3.out.g1.at
       have hbs : Below S wv.drew ((wv.drew.setCells g ((j + 1) * kk) cy).setCells g (j * kk) cx) := below_setCellsO hgS _ _ _ _ (below_setCellsO hgS _ _ _ _ (Below.refl _ _))
       have l1 := ld1 Tryz.prog
       have l2 := ld2 Tryz.prog
       have t1 := st1 Tryz.prog
       have t2 := st2 Tryz.prog
       have y0 := objcell HS3.out.out (j := 1) rfl
       have hSz := HS3.out.lt
       have hgne : S + 1 + 1 ≠ g := fun e => own_ne HS3.out.rc.exc HS3.out.out (by decide) (by rw [e]; rfl)
       have y1 : (wv.drew.setCells g ((j + 1) * kk) cy).cell? ⟨S + 1 + 1, 1, none⟩ = some (.slice (some ⟨g, 0, none⟩) (i + 1) qn) := by
        rw [World.cell?_setCells_out g _ _ _ _ (fun e _ => absurd e hgne)]; simpa using y0
       have HS4 : Hid (SS B S w ((wv.drew.setCells g ((j + 1) * kk) cy).setCells g (j * kk) cx) #[.slice p0 N0 m0, .slice (some ⟨b, 0, none⟩) N1 m1, .slice p2 N2 m2, .slice p3 N3 m3] (.slice a0 N0 q0) (.slice (some ⟨g, 0, none⟩) (i + 1) qn) (.slice none 0 0) (.slice none 0 0) ⟨sortS (fun a b => slt a.name b.name) c.licenses, (row.set (j + 1) y).set j x, [], []⟩) :=
        (HS3.out.below (w' := wv.drew) (by first | ((repeat (first | exact Below.refl _ _ | assumption | refine Below.drewN ?_ _ | refine Below.drew ?_ | refine Below.alloc ?_ (by first | exact Nat.le_refl _ | (simp; done) | (simp; omega) | omega) _ | refine Below.setCell ?_ (by first | exact Nat.le_refl _ | (simp; done) | (simp; omega) | omega) _ | refine Below.trans ?_ (Below.mono (by assumption) (by first | exact Nat.le_refl _ | (simp; done) | (simp; omega) | omega)))); done) | fail)).swp (by decide) hbs hA ((HS3.out.below (w' := wv.drew) (by first | ((repeat (first | exact Below.refl _ _ | assumption | refine Below.drewN ?_ _ | refine Below.drew ?_ | refine Below.alloc ?_ (by first | exact Nat.le_refl _ | (simp; done) | (simp; omega) | omega) _ | refine Below.setCell ?_ (by first | exact Nat.le_refl _ | (simp; done) | (simp; omega) | omega) _ | refine Below.trans ?_ (Below.mono (by assumption) (by first | exact Nat.le_refl _ | (simp; done) | (simp; omega) | omega)))); done) | fail)).rc.set_exc (Below.refl _ _) hA ho)
       have mixed : Tryz.prog.follows .mixedOrders = true := by kernel_rfl
       have aE := Tryz.isAgg62
       clear ld1 ld2 st1 st2 ho hA hbs hcur hkk
       go_wp2
       go_big_region_o
       clear l1 l2 t1 t2
       generalize (wv.drew.setCells g ((j + 1) * kk) cy).setCells g (j * kk) cx = w4 at HS4 ⊢
       go_wp2
       go_roundw
       case rel => exact ⟨j, _, by omega, by go_num, HI4, HS4⟩
       case measure => simp [intOf]
  ·obtain rfl : N1 = i := by omega
   have HS0 : Hid (SS B S w wr #[.slice p0 N0 m0, .slice p1 N1 m1, .slice p2 N2 m2, .slice p3 N3 m3] (.slice a0 N0 q0) (.slice a1 N1 q1) (.slice none 0 0) (.slice none 0 0) ⟨sortS (fun a b => slt a.name b.name) c.licenses, sortS (fun a b => slt a.name b.name) c.exceptions, [], []⟩) := by
    have h := HS.out
    rw [HAC.out, ← HL1.out, accS_end, HL1.out] at h
    exact h
   have z0 := objcell HS0.out.arg (j := 1) rfl
   have hsz := HS0.out.lt
   clear HAC HS hlen acc
   go_upto_region 18 with (fail)
   rename_i K3 hK3 K4 hK4
   exact srt2 B S w _ c hK3 hK4 hS HR HL0 HL1 HL2 HL3 n0 n1 n2 n3 HS0
set_option maxRecDepth 100000 in
set_option maxHeartbeats 4000000 in
theorem Sorted_ref (B : Nat) (w : World) (v0 v1 v2 v3 : Value) (c : Catalog) (h : RC B w v0 v1 v2 v3 c) (hBw : B ≤ w.heap.size) (n0 : c.licenses.length ≤ 100000000) (n1 : c.exceptions.length ≤ 100000000) (n2 : c.clauses.length ≤ 100000000) (n3 : c.apart.length ≤ 100000000) :
  Calls Tryz.prog 52 #[.agg #[v0, v1, v2, v3]] w fun e w' => ∃ a0 a1 a2 a3, e = .returned (.agg #[a0, a1, a2, a3]) ∧ Below w.heap.size w w' ∧ RC B w' a0 a1 a2 a3 (sortC c) := by
 obtain ⟨p0, m0, rfl⟩ := h.lic.shape
 obtain ⟨p1, m1, rfl⟩ := h.exc.shape
 obtain ⟨p2, m2, rfl⟩ := h.cla.shape
 obtain ⟨p3, m3, rfl⟩ := h.prs.shape
 have HR := Lib.hid h
 generalize hL0 : c.licenses.length = N0 at *
 generalize hL1 : c.exceptions.length = N1 at *
 generalize hL2 : c.clauses.length = N2 at *
 generalize hL3 : c.apart.length = N3 at *
 have HL0 := Lib.hid hL0
 have HL1 := Lib.hid hL1
 have HL2 := Lib.hid hL2
 have HL3 := Lib.hid hL3
 clear hL0 hL1 hL2 hL3 h
 go_enter Tryz.func52, Tryz.ntmps52
 go_wp2
 rename_i K1 hK1
 have HS0 := Lib.hid (ss_start B w hBw #[.slice p0 N0 m0, .slice p1 N1 m1, .slice p2 N2 m2, .slice p3 N3 m3])
 generalize ((w.alloc (.cells #[.slice p0 N0 m0, .slice p1 N1 m1, .slice p2 N2 m2, .slice p3 N3 m3] 28)).alloc (.cells #[.slice none 0 0, .slice none 0 0, .slice none 0 0, .slice none 0 0] 28)).alloc (.cells #[.slice none 0 0, .slice none 0 0, .slice none 0 0, .slice none 0 0] 28) = wq at *
 generalize hS : w.heap.size = S at *
 go_loopw [4] (fun iv wr => ∃ (i : Nat) (a0 : Option Addr) (q0 : Nat) (acc : List License), i ≤ N0 ∧ iv = .int .i64 i ∧ acc.reverse.length = i ∧ Hid (acc = accS (fun a b => slt a.name b.name) c.licenses i) ∧ Hid (SS B S w wr #[.slice p0 N0 m0, .slice p1 N1 m1, .slice p2 N2 m2, .slice p3 N3 m3] (.slice a0 i q0) (.slice none 0 0) (.slice none 0 0) (.slice none 0 0) ⟨acc.reverse, [], [], []⟩)) (fun iv _ => N0 - (intOf iv).toNat)
 case atStart => exact ⟨0, none, 0, [], Nat.zero_le _, by go_num, rfl, rfl, HS0⟩
 case round =>
  clear HS0
  obtain ⟨i, a0, q0, acc, hi, rfl, hlen, HAC, HS⟩ := hrel
  by_cases hlt : i < N0
  ·obtain ⟨x, hx⟩ := get_lt (xs := c.licenses) (k := i) (by rw [HL0.out]; exact hlt)
   have hlz : (i : Int) < (N0 : Int) := by omega
   obtain ⟨b, yy, rfl, -, -, hb, hyl, hcell, hkeep, -⟩ := HR.out.lic.elem hx
   obtain ⟨⟨la, ld, lc⟩, rfl⟩ := ofLic _ yy x hyl (hkeep _ (Agree.refl _ _ _))
   have hbw : Below w.heap.size w wr := by rw [hS]; exact HS.out.bel
   have e0 : wr.cell? ⟨b, i * 4, none⟩ = some (.string x.name) := kept hbw (hcell 0 _ rfl).1
   have e1 : wr.cell? ⟨b, i * 4 + 1, none⟩ = some (.string x.family) := kept hbw (hcell 1 _ rfl).1
   have e2 : wr.cell? ⟨b, i * 4 + 2, none⟩ = some (.int .i64 x.version) := kept hbw (hcell 2 _ rfl).1
   have e3 : wr.cell? ⟨b, i * 4 + 3, none⟩ = some (.string x.text) := kept hbw (hcell 3 _ rfl).1
   have z0 := objcell HS.out.arg (j := 0) rfl
   have y0 := objcell HS.out.out (j := 0) rfl
   have yf := objfrozen HS.out.out (j := 0)
   have hsz := HS.out.lt
   have hgb : b < wr.heap.size := cell_lt e0
   have hne2 := own_ne HS.out.rc.lic HS.out.out (by decide)
   have HX := Lib.hid hx
   have HK := Lib.hid hkeep
   clear hcell hbw hx hkeep hb hyl
   go_wp2
   apply share (H := fun a' c' w2 => Hid (SS B S w w2 #[.slice (some ⟨b, 0, none⟩) N0 m0, .slice p1 N1 m1, .slice p2 N2 m2, .slice p3 N3 m3] (.slice a' (i + 1) c') (.slice none 0 0) (.slice none 0 0) (.slice none 0 0) ⟨acc.reverse ++ [x], [], [], []⟩))
   ·intro key
    go_region_law ((refine step_app2 licRow rfl (by decide) Tryz.underlying23 (by rfl) _ _ (by rfl) B S HS.out.le E6 (.slice a0 i q0) acc.reverse (by rfl) (by decide) (HS.out.rc.lic.below (by first | ((repeat (first | exact Below.refl _ _ | assumption | refine Below.drewN ?_ _ | refine Below.drew ?_ | refine Below.alloc ?_ (by first | exact Nat.le_refl _ | (simp; done) | (simp; omega) | omega) _ | refine Below.setCell ?_ (by first | exact Nat.le_refl _ | (simp; done) | (simp; omega) | omega) _ | refine Below.trans ?_ (Below.mono (by assumption) (by first | exact Nat.le_refl _ | (simp; done) | (simp; omega) | omega)))); done) | fail)) HS.out.g0 ⟨wr.heap.size, 0, none⟩ [.string x.name, .string x.family, .int .i64 x.version, .string x.text] x (by rfl) rfl (World.news_of_block (cs := #[.string x.name, .string x.family, .int .i64 x.version, .string x.text]) (t := 43) (fr := (0, 0)) (heap_alloc_new wr _)) (by simp [Value.oneCell']) (fun w'' hA => HK.out w'' ((Agree.of_below (by rw [hS]; exact HS.out.bel.trans (by first | ((repeat (first | exact Below.refl _ _ | assumption | refine Below.drewN ?_ _ | refine Below.drew ?_ | refine Below.alloc ?_ (by first | exact Nat.le_refl _ | (simp; done) | (simp; omega) | omega) _ | refine Below.setCell ?_ (by first | exact Nat.le_refl _ | (simp; done) | (simp; omega) | omega) _ | refine Below.trans ?_ (Below.mono (by assumption) (by first | exact Nat.le_refl _ | (simp; done) | (simp; omega) | omega)))); done) | fail))).trans hA)) (by rw [hlen]; omega) (by simp; omega) ?_; rw [hlen]; intro a' c' w1 ho1 hoG hg1; have hr6 := keep_g y0 (by first | ((repeat (first | exact Below.refl _ _ | assumption | refine Below.drewN ?_ _ | refine Below.drew ?_ | refine Below.alloc ?_ (by first | exact Nat.le_refl _ | (simp; done) | (simp; omega) | omega) _ | refine Below.setCell ?_ (by first | exact Nat.le_refl _ | (simp; done) | (simp; omega) | omega) _ | refine Below.trans ?_ (Below.mono (by assumption) (by first | exact Nat.le_refl _ | (simp; done) | (simp; omega) | omega)))); done) | fail) hg1 hne2; have hf6 := (hg1.frozen_far ⟨S + 1 + 1, 0, none⟩ (by simp; omega) hne2).trans (keptF (a := ⟨S + 1 + 1, 0, none⟩) (by first | ((repeat (first | exact Below.refl _ _ | assumption | refine Below.drewN ?_ _ | refine Below.drew ?_ | refine Below.alloc ?_ (by first | exact Nat.le_refl _ | (simp; done) | (simp; omega) | omega) _ | refine Below.setCell ?_ (by first | exact Nat.le_refl _ | (simp; done) | (simp; omega) | omega) _ | refine Below.trans ?_ (Below.mono (by assumption) (by first | exact Nat.le_refl _ | (simp; done) | (simp; omega) | omega)))); done) | fail) y0 yf)))
    all_goals
     have hgr1 := OwnL.grown (HS.out.rc.lic.below (by first | ((repeat (first | exact Below.refl _ _ | assumption | refine Below.drewN ?_ _ | refine Below.drew ?_ | refine Below.alloc ?_ (by first | exact Nat.le_refl _ | (simp; done) | (simp; omega) | omega) _ | refine Below.setCell ?_ (by first | exact Nat.le_refl _ | (simp; done) | (simp; omega) | omega) _ | refine Below.trans ?_ (Below.mono (by assumption) (by first | exact Nat.le_refl _ | (simp; done) | (simp; omega) | omega)))); done) | fail)) hg1 (by have := HS.out.le; simp; omega)
     have hgb1 := Below.grown (B := S) (Below.refl _ _) hg1 (by simp; omega) HS.out.g0
     have HS1 := Lib.hid ((HS.out.below (by first | ((repeat (first | exact Below.refl _ _ | assumption | refine Below.drewN ?_ _ | refine Below.drew ?_ | refine Below.alloc ?_ (by first | exact Nat.le_refl _ | (simp; done) | (simp; omega) | omega) _ | refine Below.setCell ?_ (by first | exact Nat.le_refl _ | (simp; done) | (simp; omega) | omega) _ | refine Below.trans ?_ (Below.mono (by assumption) (by first | exact Nat.le_refl _ | (simp; done) | (simp; omega) | omega)))); done) | fail)).set (j := 0) (by decide) hgb1 hgr1.2 rfl (HS.out.rc.set_lic (by first | ((repeat (first | exact Below.refl _ _ | assumption | refine Below.drewN ?_ _ | refine Below.drew ?_ | refine Below.alloc ?_ (by first | exact Nat.le_refl _ | (simp; done) | (simp; omega) | omega) _ | refine Below.setCell ?_ (by first | exact Nat.le_refl _ | (simp; done) | (simp; omega) | omega) _ | refine Below.trans ?_ (Below.mono (by assumption) (by first | exact Nat.le_refl _ | (simp; done) | (simp; omega) | omega)))); done) | fail) hgr1.2 ho1) hoG HS.out.g1 HS.out.g2 HS.out.g3)
     clear hgr1 hgb1 ho1 hoG hg1 hr6 hf6
     generalize w1.setCell ⟨S + 1 + 1, 0, none⟩ (.slice a' (i + 1) c') = w2 at HS1 ⊢
     exact key a' c' w2 HS1
   ·intro an qn w2 HS1
    clear e0 e1 e2 e3 z0 y0 yf hsz hgb hne2 HS HK
    go_wp2
    generalize wr.heap.size = wz
    clear wr
    go_loopw [5] (fun kv wr => ∃ (k : Nat) (row : List License), k ≤ i ∧ kv = .int .i64 k ∧ Hid (InsI (fun a b => slt a.name b.name) x acc k row) ∧ Hid (SS B S w wr #[.slice (some ⟨b, 0, none⟩) N0 m0, .slice p1 N1 m1, .slice p2 N2 m2, .slice p3 N3 m3] (.slice an (i + 1) qn) (.slice none 0 0) (.slice none 0 0) (.slice none 0 0) ⟨row, [], [], []⟩)) (fun kv _ => (intOf kv).toNat)
    case atStart => exact ⟨i, _, Nat.le_refl _, rfl, by have := InsI.start (fun (a b : License) => slt a.name b.name) x acc; simp only [List.length_reverse] at hlen; rw [hlen] at this; exact this, HS1⟩
    case round =>
     clear HS1
     obtain ⟨k, row, hki, rfl, HI, HS2⟩ := hrel
     cases k with
     | zero =>
      go_wp2
      go_quiet (fail)
      have HE : Hid (row = (accS (fun a b => slt a.name b.name) c.licenses (i + 1)).reverse) := by
       show _ = _
       rw [← accS_step (fun (a b : License) => slt a.name b.name) HX.out, ← HAC.out]; exact HI.out.ends
      generalize hdr : wr.drewN nq = wv
      have hbz : Below wr.heap.size wr wv := by rw [← hdr]; exact (by first | ((repeat (first | exact Below.refl _ _ | assumption | refine Below.drewN ?_ _ | refine Below.drew ?_ | refine Below.alloc ?_ (by first | exact Nat.le_refl _ | (simp; done) | (simp; omega) | omega) _ | refine Below.setCell ?_ (by first | exact Nat.le_refl _ | (simp; done) | (simp; omega) | omega) _ | refine Below.trans ?_ (Below.mono (by assumption) (by first | exact Nat.le_refl _ | (simp; done) | (simp; omega) | omega)))); done) | fail)
      clear hdr
      have HS3 := Lib.hid (HS2.out.below hbz)
      clear HS2 HI hbz
      clear wr
      go_wp2
      go_roundw
      case rel => exact ⟨i + 1, _, _, accS (fun a b => slt a.name b.name) c.licenses (i + 1), by omega, by go_num, by rw [List.length_reverse]; exact accS_length _ (by rw [HL0.out]; omega), rfl, by rw [HE.out] at HS3; exact HS3⟩
      case measure => simp [intOf]; omega
     | succ j =>
      obtain ⟨hxk, y, hyk, hstop, hgo⟩ := HI.out.here
      obtain ⟨g, cx, rfl, -, hg, hgl, lx, fx, sx, hcur⟩ := HS2.out.rc.lic.elem hxk
      have ix := sx _ (Agree.refl _ _ _)
      obtain ⟨⟨ja, jd, jc⟩, rfl⟩ := ofLic _ cx x lx ix
      obtain ⟨g', cy, he, -, -, -, ly, fy, sy, -⟩ := HS2.out.rc.lic.elem hyk
      cases he
      have iy := sy _ (Agree.refl _ _ _)
      obtain ⟨⟨ka, kd, kc⟩, rfl⟩ := ofLic _ cy y ly iy
      have y0 := objcell HS2.out.out (j := 0) rfl
      have hwj : IntKind.i64.wrap (j : Int) = j := IntWalk.i64_in _ (by omega)
      have HST := Lib.hid hstop
      have HGO := Lib.hid hgo
      have HXK := Lib.hid hxk
      have HYK := Lib.hid hyk
      have e0 : wr.cell? ⟨g, (j + 1) * 4, none⟩ = some (.string x.name) := (fx 0 _ rfl).1
      have e1 : wr.cell? ⟨g, j * 4, none⟩ = some (.string y.name) := (fy 0 _ rfl).1
      clear hstop hgo hxk hyk fx sx fy sy lx ly hcur ix iy
      cases q : Op.bytesLess x.name.toList y.name.toList
      case false =>
       go_wp2
       go_quiet (fail)
       generalize hdr : wr.drewN nq = wv
       have hbz : Below wr.heap.size wr wv := by rw [← hdr]; exact (by first | ((repeat (first | exact Below.refl _ _ | assumption | refine Below.drewN ?_ _ | refine Below.drew ?_ | refine Below.alloc ?_ (by first | exact Nat.le_refl _ | (simp; done) | (simp; omega) | omega) _ | refine Below.setCell ?_ (by first | exact Nat.le_refl _ | (simp; done) | (simp; omega) | omega) _ | refine Below.trans ?_ (Below.mono (by assumption) (by first | exact Nat.le_refl _ | (simp; done) | (simp; omega) | omega)))); done) | fail)
       clear hdr
       have HE : Hid (row = (accS (fun a b => slt a.name b.name) c.licenses (i + 1)).reverse) := by
        show _ = _
        rw [← accS_step (fun (a b : License) => slt a.name b.name) HX.out, ← HAC.out]; exact HST.out q
       have HS3 := Lib.hid (HS2.out.below hbz)
       clear e0 e1 y0 HS2 HI HST HGO hbz hgl
       clear wr
       go_wp2
       go_roundw
       case rel => exact ⟨i + 1, _, _, accS (fun a b => slt a.name b.name) c.licenses (i + 1), by omega, by go_num, by rw [List.length_reverse]; exact accS_length _ (by rw [HL0.out]; omega), rfl, by rw [HE.out] at HS3; exact HS3⟩
       case measure => simp [intOf]; omega
      case true =>
       go_wp2
       go_quiet (fail)
       generalize hdr : wr.drewN nq = wv
       have hbz : Below wr.heap.size wr wv := by rw [← hdr]; exact (by first | ((repeat (first | exact Below.refl _ _ | assumption | refine Below.drewN ?_ _ | refine Below.drew ?_ | refine Below.alloc ?_ (by first | exact Nat.le_refl _ | (simp; done) | (simp; omega) | omega) _ | refine Below.setCell ?_ (by first | exact Nat.le_refl _ | (simp; done) | (simp; omega) | omega) _ | refine Below.trans ?_ (Below.mono (by assumption) (by first | exact Nat.le_refl _ | (simp; done) | (simp; omega) | omega)))); done) | fail)
       clear hdr
       have HS3 := Lib.hid (HS2.out.below hbz)
       have HI4 := Lib.hid (HGO.out q)
       clear e0 e1 y0 HS2 HI HST HGO hbz hgl
       clear wr
       obtain ⟨kk, hkk⟩ : ∃ k, k = Lay.n License := ⟨_, rfl⟩
       have zE : ∀ w, (Go.sizeOf 43).run Tryz.prog w = .ok kk w := by rw [hkk]; exact Tryz.sizeOf43
       obtain ⟨g', cx, cy, he, -, hgB, hgl, lx, ly, hcur, ld1, ld2, st1, st2, ho, hA, -⟩ := (HS3.out.rc.lic.below (w' := wv.drew) (by first | ((repeat (first | exact Below.refl _ _ | assumption | refine Below.drewN ?_ _ | refine Below.drew ?_ | refine Below.alloc ?_ (by first | exact Nat.le_refl _ | (simp; done) | (simp; omega) | omega) _ | refine Below.setCell ?_ (by first | exact Nat.le_refl _ | (simp; done) | (simp; omega) | omega) _ | refine Below.trans ?_ (Below.mono (by assumption) (by first | exact Nat.le_refl _ | (simp; done) | (simp; omega) | omega)))); done) | fail)).swap (by decide) oneLic HXK.out HYK.out
       cases he
       rw [← hkk] at lx ly ld1 ld2 st1 st2 ho hA
       have hgS : S ≤ g := HS3.out.g0.at
       have hbs : Below S wv.drew ((wv.drew.setCells g ((j + 1) * kk) cy).setCells g (j * kk) cx) := below_setCellsO hgS _ _ _ _ (below_setCellsO hgS _ _ _ _ (Below.refl _ _))
       have l1 := ld1 Tryz.prog
       have l2 := ld2 Tryz.prog
       have t1 := st1 Tryz.prog
       have t2 := st2 Tryz.prog
       have y0 := objcell HS3.out.out (j := 0) rfl
       have hSz := HS3.out.lt
       have hgne : S + 1 + 1 ≠ g := fun e => own_ne HS3.out.rc.lic HS3.out.out (by decide) (by rw [e]; rfl)
       have y1 : (wv.drew.setCells g ((j + 1) * kk) cy).cell? ⟨S + 1 + 1, 0, none⟩ = some (.slice (some ⟨g, 0, none⟩) (i + 1) qn) := by
        rw [World.cell?_setCells_out g _ _ _ _ (fun e _ => absurd e hgne)]; simpa using y0
       have HS4 : Hid (SS B S w ((wv.drew.setCells g ((j + 1) * kk) cy).setCells g (j * kk) cx) #[.slice (some ⟨b, 0, none⟩) N0 m0, .slice p1 N1 m1, .slice p2 N2 m2, .slice p3 N3 m3] (.slice (some ⟨g, 0, none⟩) (i + 1) qn) (.slice none 0 0) (.slice none 0 0) (.slice none 0 0) ⟨(row.set (j + 1) y).set j x, [], [], []⟩) :=
        (HS3.out.below (w' := wv.drew) (by first | ((repeat (first | exact Below.refl _ _ | assumption | refine Below.drewN ?_ _ | refine Below.drew ?_ | refine Below.alloc ?_ (by first | exact Nat.le_refl _ | (simp; done) | (simp; omega) | omega) _ | refine Below.setCell ?_ (by first | exact Nat.le_refl _ | (simp; done) | (simp; omega) | omega) _ | refine Below.trans ?_ (Below.mono (by assumption) (by first | exact Nat.le_refl _ | (simp; done) | (simp; omega) | omega)))); done) | fail)).swp (by decide) hbs hA ((HS3.out.below (w' := wv.drew) (by first | ((repeat (first | exact Below.refl _ _ | assumption | refine Below.drewN ?_ _ | refine Below.drew ?_ | refine Below.alloc ?_ (by first | exact Nat.le_refl _ | (simp; done) | (simp; omega) | omega) _ | refine Below.setCell ?_ (by first | exact Nat.le_refl _ | (simp; done) | (simp; omega) | omega) _ | refine Below.trans ?_ (Below.mono (by assumption) (by first | exact Nat.le_refl _ | (simp; done) | (simp; omega) | omega)))); done) | fail)).rc.set_lic (Below.refl _ _) hA ho)
       have mixed : Tryz.prog.follows .mixedOrders = true := by kernel_rfl
       have aE := Tryz.isAgg43
       clear ld1 ld2 st1 st2 ho hA hbs hcur hkk
       go_wp2
       go_big_region_o
       clear l1 l2 t1 t2
       generalize (wv.drew.setCells g ((j + 1) * kk) cy).setCells g (j * kk) cx = w4 at HS4 ⊢
       go_wp2
       go_roundw
       case rel => exact ⟨j, _, by omega, by go_num, HI4, HS4⟩
       case measure => simp [intOf]
  ·obtain rfl : N0 = i := by omega
   have HS0 : Hid (SS B S w wr #[.slice p0 N0 m0, .slice p1 N1 m1, .slice p2 N2 m2, .slice p3 N3 m3] (.slice a0 N0 q0) (.slice none 0 0) (.slice none 0 0) (.slice none 0 0) ⟨sortS (fun a b => slt a.name b.name) c.licenses, [], [], []⟩) := by
    have h := HS.out
    rw [HAC.out, ← HL0.out, accS_end, HL0.out] at h
    exact h
   have z0 := objcell HS0.out.arg (j := 0) rfl
   have hsz := HS0.out.lt
   clear HAC HS hlen acc
   go_upto_region 10 with (fail)
   rename_i K3 hK3 K4 hK4
   exact srt1 B S w _ c hK3 hK4 hS HR HL0 HL1 HL2 HL3 n0 n1 n2 n3 HS0
end Go.Proofs.YtaneolfnnkppbaaGreatDoor
