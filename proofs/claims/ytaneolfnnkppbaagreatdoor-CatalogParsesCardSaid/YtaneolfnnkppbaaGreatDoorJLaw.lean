/- Plain laws of catalogs: pairs, and later versions. -/
import Derived.Lib.ItoaNum
import Derived.Test.YtaneolfnnkppbaaGreatDoorJProY
set_option linter.all false
namespace Go.Proofs.YtaneolfnnkppbaaGreatDoor
open Go Go.Sort

theorem look_found {x : License} : ∀ {ls : List License}, (ls.map License.name).Nodup → x ∈ ls → lookL x.name ls = some x
 | y :: r, hn, hx => by
  rw [List.map_cons, List.nodup_cons] at hn
  unfold lookL
  rcases List.mem_cons.1 hx with rfl | hx
  ·rw [if_pos rfl]
  ·rw [if_neg fun e => hn.1 (List.mem_map.2 ⟨x, hx, e.symm⟩)]
   exact look_found hn.2 hx
theorem find_lic {c : Catalog} (h : checkC c = 0) {x : License} (hx : x ∈ c.licenses) : findC c x.name = some x := by
 unfold findC
 rw [h]
 exact look_found (lic_nodup (check_parts h).1) hx
theorem later_find {c : Catalog} (h : checkC c = 0) {x : License} (hx : x ∈ c.licenses) : laterC c x.name = some ((laterL c x).map License.name) ∧ laterE c x.name = 0 := by
 unfold laterC laterE
 rw [find_lic h hx]
 exact ⟨rfl, rfl⟩
end Go.Proofs.YtaneolfnnkppbaaGreatDoor
namespace Go.Proofs.YtaneolfnnkppbaaGreatDoor
open Go Go.Sort

theorem clauseLt_def (a b : Clause) : clauseLt a b = true ↔ (slt a.license b.license = true ∨ a.license = b.license ∧ (a.way < b.way ∨ a.way = b.way ∧ (a.relation < b.relation ∨ a.relation = b.relation ∧ a.duty < b.duty))) := by
 unfold clauseLt
 by_cases h1 : a.license = b.license
 ·rw [h1]
  simp only [seq_eq, decide_true, Bool.not_true, Bool.false_eq_true, if_false, slt_irrefl, false_or, true_and]
  by_cases h2 : a.way = b.way
  ·by_cases h3 : a.relation = b.relation
   ·simp [h2, h3]
   ·simp [h2, h3]
  ·simp [h2]
 ·have : seq a.license b.license = false := by rw [seq_eq]; simpa using h1
  simp [this, h1]
def eS : ByteArray := ByteArray.empty
end Go.Proofs.YtaneolfnnkppbaaGreatDoor
namespace Go.Proofs.YtaneolfnnkppbaaGreatDoor
open Go
def exL : List UInt8 := [108, 105, 99, 101, 110, 115, 101, 32, 111, 112, 101, 110, 32, 111, 112, 101, 110, 32, 49, 32, 49, 10, 107, 101, 101, 112, 32, 116, 104, 105, 115, 32, 108, 105, 110, 101, 10, 108, 105, 99, 101, 110, 115, 101, 32, 115, 104, 97, 114, 101, 32, 115, 104, 97, 114, 101, 32, 50, 32, 48, 10, 101, 120, 99, 101, 112, 116, 105, 111, 110, 32, 108, 105, 110, 107, 32, 115, 104, 97, 114, 101, 32, 115, 104, 97, 114, 101, 10, 99, 108, 97, 117, 115, 101, 32, 111, 112, 101, 110, 32, 115, 111, 117, 114, 99, 101, 32, 105, 110, 32, 110, 111, 116, 105, 99, 101, 10, 99, 108, 97, 117, 115, 101, 32, 115, 104, 97, 114, 101, 32, 98, 105, 110, 97, 114, 121, 32, 105, 110, 32, 115, 104, 97, 114, 101, 32, 115, 104, 97, 114, 101, 10, 97, 112, 97, 114, 116, 32, 111, 112, 101, 110, 32, 115, 104, 97, 114, 101, 10]
def exC : Catalog := ⟨[⟨mkS [111, 112, 101, 110], mkS [111, 112, 101, 110], 1, mkS [107, 101, 101, 112, 32, 116, 104, 105, 115, 32, 108, 105, 110, 101]⟩, ⟨mkS [115, 104, 97, 114, 101], mkS [115, 104, 97, 114, 101], 2, mkS []⟩], [⟨mkS [108, 105, 110, 107], mkS [115, 104, 97, 114, 101], [4]⟩], [⟨mkS [111, 112, 101, 110], 0, 0, 1, []⟩, ⟨mkS [115, 104, 97, 114, 101], 1, 0, 4, [mkS [115, 104, 97, 114, 101]]⟩], [⟨mkS [111, 112, 101, 110], mkS [115, 104, 97, 114, 101]⟩]⟩
set_option maxRecDepth 100000 in
theorem ex_parse : parseC (mkS exL) = (0, 0, exC) := by decide +kernel
def num3 (n : Int) : List UInt8 := if n = 1 then [49] else if n = 2 then [50] else [48]
theorem fmt_num (f g : Int → List UInt8) (c : Catalog) (h : ∀ x ∈ c.licenses, f x.version = g x.version ∧ f ((linesB x.text).length : Int) = g ((linesB x.text).length : Int)) : formatL f c = formatL g c := by
 unfold formatL
 congr 2
 refine List.map_congr_left fun x hx => ?_
 unfold fmtLic
 rw [(h x hx).1, (h x hx).2]
set_option maxRecDepth 100000 in
theorem ex_fmt3 : formatL num3 exC = exL := by decide +kernel
theorem itoa012 : Lib.itoa 0 = [48] ∧ Lib.itoa 1 = [49] ∧ Lib.itoa 2 = [50] := by
 refine ⟨?_, ?_, ?_⟩ <;> (unfold Lib.itoa; simp; unfold Lib.decDigits; simp <;> rfl)
set_option maxRecDepth 100000 in
theorem ex_fmt : formatL Lib.itoa exC = exL := by
 rw [fmt_num Lib.itoa num3, ex_fmt3]
 intro x hx
 obtain ⟨i0, i1, i2⟩ := itoa012
 have h : x = ⟨mkS [111, 112, 101, 110], mkS [111, 112, 101, 110], 1, mkS [107, 101, 101, 112, 32, 116, 104, 105, 115, 32, 108, 105, 110, 101]⟩ ∨ x = ⟨mkS [115, 104, 97, 114, 101], mkS [115, 104, 97, 114, 101], 2, mkS []⟩ := by simpa [exC] using hx
 rcases h with rfl | rfl
 ·have e : linesB (mkS [107, 101, 101, 112, 32, 116, 104, 105, 115, 32, 108, 105, 110, 101]) = [mkS [107, 101, 101, 112, 32, 116, 104, 105, 115, 32, 108, 105, 110, 101]] := by decide +kernel
  simp only [e, List.length_cons, List.length_nil]
  exact ⟨i1, i1⟩
 ·have e : linesB (mkS []) = [] := by decide +kernel
  simp only [e, List.length_nil]
  exact ⟨i2, i0⟩
theorem ex_check : checkC exC = 0 := by decide +kernel
end Go.Proofs.YtaneolfnnkppbaaGreatDoor
