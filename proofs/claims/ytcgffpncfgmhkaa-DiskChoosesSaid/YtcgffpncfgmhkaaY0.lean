import Derived.Test.YtcgffpncfgmhkaaX5
set_option maxRecDepth 100000
namespace Go.Proofs.Ytcgffpncfgmhkaa
open Go Go.Proofs Go.RowKit Go.Instr
open Go.Proofs.YtcgffpncfgmhkaaW.PrintWords
def sec (b : Int) : Sec := ⟨b, 0, 0, 0, 0, 0, 0, 0⟩
def sE : St := ([Sec.z, Sec.z, Sec.z], [(0, sec 1), (1, sec 2), (1, sec 3)])
theorem e1 : runR ([Sec.z, Sec.z, Sec.z], []) [⟨0, 0, [sec 1, sec 2]⟩, ⟨0, 1, [sec 3]⟩] = (2, 0, sE) := by rfl
theorem e2 : readR sE 0 3 = (0, [sec 1, sec 3, Sec.z]) := by rfl
theorem e3 : (crashD sE [1, 1]).1 = [sec 1, sec 2, Sec.z] := by rfl
theorem e4 : (crashD sE [4, 5]).1 = [Sec.z, sec 3, Sec.z] := by rfl
theorem e5 : (crashD sE []).1 = [Sec.z, Sec.z, Sec.z] := by rfl
theorem e6 : interD ([Sec.z, Sec.z, Sec.z], []) [⟨0, 0, [sec 1]⟩, ⟨1, 0, []⟩, ⟨0, 0, [sec 2]⟩] 3 [1] = (([sec 2, Sec.z, Sec.z], []), [], 0) := by rfl
theorem e7 : interD ([Sec.z, Sec.z, Sec.z], []) [⟨0, 0, [sec 1]⟩, ⟨1, 0, []⟩, ⟨0, 0, [sec 2]⟩] 2 [1] = (([sec 1, Sec.z, Sec.z], []), [1], 0) := by rfl
theorem e8 : writeR ([Sec.z, Sec.z, Sec.z], []) 3 [sec 1] = (2, ([], [])) := by rfl
end Go.Proofs.Ytcgffpncfgmhkaa
