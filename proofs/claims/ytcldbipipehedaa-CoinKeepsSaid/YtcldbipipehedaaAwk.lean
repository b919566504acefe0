/-
  WALKS: voussoirlaw19.awake.
-/
import Derived.Test.YtcldbipipehedaaTr2
namespace Go.Proofs.Ytcldbipipehedaa
open Go.RowKit Go.ChangeMaps
def xAnn : List UInt8 := [97, 110, 110]
def xBob : List UInt8 := [98, 111, 98]
def xCy : List UInt8 := [99, 121]
def xGold : List UInt8 := [103, 111, 108, 100]
def xV4 : List UInt8 := [116, 114, 97, 110, 115, 102, 101, 114, 47, 52, 47, 103, 111, 108, 100]
def xE3 : List UInt8 := [101, 115, 99, 114, 111, 119, 47, 51]
def exC : Co := ⟨xGold, 5, xAnn, xBob⟩
def exD : Co := ⟨xV4, 2, xBob, xCy⟩
theorem dec1 : dec 1 = [49] := by rw [dec_lt (by omega)]; rfl
theorem dec2 : dec 2 = [50] := by rw [dec_lt (by omega)]; rfl
theorem dec3 : dec 3 = [51] := by rw [dec_lt (by omega)]; rfl
theorem dec4 : dec 4 = [52] := by rw [dec_lt (by omega)]; rfl
theorem esc3 : escL 3 = xE3 := by unfold escL; rw [dec3]; rfl
theorem vou4 : vouL 4 xGold = xV4 := by unfold vouL traceL; rw [dec4]; rfl
theorem hom3 : isHome 3 xGold = false := by unfold isHome traceL; rw [dec3]; decide
theorem hom4 : isHome 4 xV4 = true := by rw [← vou4]; exact isHome_vou 4 _
theorem home4 : homeL 4 xV4 = xGold := by rw [← vou4]; exact homeL_vou 4 _
theorem exC0 : chkC exC = 0 := by decide +kernel
theorem exD0 : chkC exD = 0 := by decide +kernel
def sA1 : BkS := mintS emptyB xAnn xGold 9
def sA2 : BkS := sendS sA1 xAnn xE3 xGold 5
def sB1 : BkS := mintS emptyB xBob xV4 5
def sB2 : BkS := burnS sB1 xBob xV4 2
def sA3 : BkS := sendS sA2 xE3 xCy xGold 2
theorem aw1 : mintE emptyB xAnn xGold 9 = 0 := by decide +kernel
theorem aw2 : outE sA1 3 exC = 0 ∧ outS sA1 3 exC = sA2 := by
  unfold outE outS
  rw [if_pos exC0, if_pos exC0, show exC.den = xGold from rfl, hom3, esc3]
  exact ⟨by decide +kernel, rfl⟩
theorem aw3 : inE emptyB 4 3 exC = 0 ∧ inS emptyB 4 3 exC = sB1 := by
  unfold inE inS
  rw [if_pos exC0, if_pos exC0, show exC.den = xGold from rfl, hom3, vou4]
  exact ⟨by decide +kernel, rfl⟩
theorem aw4 : sB1.bal xV4 xBob = 5 := by decide +kernel
theorem aw5 : outE sB1 4 exD = 0 ∧ outS sB1 4 exD = sB2 := by
  unfold outE outS
  rw [if_pos exD0, if_pos exD0, show exD.den = xV4 from rfl, hom4]
  exact ⟨by decide +kernel, rfl⟩
theorem aw6 : inE sA2 3 4 exD = 0 ∧ inS sA2 3 4 exD = sA3 := by
  unfold inE inS
  rw [if_pos exD0, if_pos exD0, show exD.den = xV4 from rfl, hom4, esc3, home4]
  exact ⟨by decide +kernel, rfl⟩
theorem aw7 : sA3.bal xGold xCy = 2 := by decide +kernel
theorem aw8 : sA3.bal xGold xE3 = 3 := by decide +kernel
end Go.Proofs.Ytcldbipipehedaa
