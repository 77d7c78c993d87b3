/- What rules() gives for the sheets of RegistryAround and awake(), told once; canonical names. (part 1) -/
import Derived.Test.YtmgjgdnjkgnbiaaGreatDoorRQMb
namespace Go.Proofs.YtmgjgdnjkgnbiaaGreatDoor.HM
open Go Go.RowKit
noncomputable def rul5V : V := (.pl 6 4 [(.str [99, 111, 117, 110, 116, 101, 114, 45, 115, 116, 121, 108, 101]), (.pl 1 7 [(iV 1), (.str [115, 48]), (iV 0), fV, fV, fV, .nils]), tV, (.pl 2 3 [(.str [115, 121, 115, 116, 101, 109]), (.pl 3 7 [(iV 1), (.str [101, 120, 116, 101, 110, 100, 115]), (iV 0), fV, fV, fV, .nils, (iV 13), eV, (iV 0), fV, fV, fV, .nils, (iV 1), (.str [115, 49]), (iV 0), fV, fV, fV, .nils]), fV, (.str [112, 114, 101, 102, 105, 120]), (.pl 1 7 [(iV 1), (.str [112, 48]), (iV 0), fV, fV, fV, .nils]), fV]), (.str [99, 111, 117, 110, 116, 101, 114, 45, 115, 116, 121, 108, 101]), (.pl 1 7 [(iV 1), (.str [115, 49]), (iV 0), fV, fV, fV, .nils]), tV, (.pl 2 3 [(.str [115, 121, 115, 116, 101, 109]), (.pl 3 7 [(iV 1), (.str [101, 120, 116, 101, 110, 100, 115]), (iV 0), fV, fV, fV, .nils, (iV 13), eV, (iV 0), fV, fV, fV, .nils, (iV 1), (.str [115, 50]), (iV 0), fV, fV, fV, .nils]), fV, (.str [112, 114, 101, 102, 105, 120]), (.pl 1 7 [(iV 1), (.str [112, 49]), (iV 0), fV, fV, fV, .nils]), fV]), (.str [99, 111, 117, 110, 116, 101, 114, 45, 115, 116, 121, 108, 101]), (.pl 1 7 [(iV 1), (.str [115, 50]), (iV 0), fV, fV, fV, .nils]), tV, (.pl 2 3 [(.str [115, 121, 115, 116, 101, 109]), (.pl 3 7 [(iV 1), (.str [101, 120, 116, 101, 110, 100, 115]), (iV 0), fV, fV, fV, .nils, (iV 13), eV, (iV 0), fV, fV, fV, .nils, (iV 1), (.str [115, 51]), (iV 0), fV, fV, fV, .nils]), fV, (.str [112, 114, 101, 102, 105, 120]), (.pl 1 7 [(iV 1), (.str [112, 50]), (iV 0), fV, fV, fV, .nils]), fV]), (.str [99, 111, 117, 110, 116, 101, 114, 45, 115, 116, 121, 108, 101]), (.pl 1 7 [(iV 1), (.str [115, 51]), (iV 0), fV, fV, fV, .nils]), tV, (.pl 2 3 [(.str [115, 121, 115, 116, 101, 109]), (.pl 3 7 [(iV 1), (.str [101, 120, 116, 101, 110, 100, 115]), (iV 0), fV, fV, fV, .nils, (iV 13), eV, (iV 0), fV, fV, fV, .nils, (iV 1), (.str [115, 52]), (iV 0), fV, fV, fV, .nils]), fV, (.str [112, 114, 101, 102, 105, 120]), (.pl 1 7 [(iV 1), (.str [112, 51]), (iV 0), fV, fV, fV, .nils]), fV]), (.str [99, 111, 117, 110, 116, 101, 114, 45, 115, 116, 121, 108, 101]), (.pl 1 7 [(iV 1), (.str [115, 52]), (iV 0), fV, fV, fV, .nils]), tV, (.pl 2 3 [(.str [115, 121, 115, 116, 101, 109]), (.pl 3 7 [(iV 1), (.str [101, 120, 116, 101, 110, 100, 115]), (iV 0), fV, fV, fV, .nils, (iV 13), eV, (iV 0), fV, fV, fV, .nils, (iV 1), (.str [115, 48]), (iV 0), fV, fV, fV, .nils]), fV, (.str [112, 114, 101, 102, 105, 120]), (.pl 1 7 [(iV 1), (.str [112, 52]), (iV 0), fV, fV, fV, .nils]), fV]), (.str [99, 111, 117, 110, 116, 101, 114, 45, 115, 116, 121, 108, 101]), (.pl 1 7 [(iV 1), (.str [116]), (iV 0), fV, fV, fV, .nils]), tV, (.pl 2 3 [(.str [115, 121, 115, 116, 101, 109]), (.pl 3 7 [(iV 1), (.str [101, 120, 116, 101, 110, 100, 115]), (iV 0), fV, fV, fV, .nils, (iV 13), eV, (iV 0), fV, fV, fV, .nils, (iV 1), (.str [115, 48]), (iV 0), fV, fV, fV, .nils]), fV, (.str [115, 117, 102, 102, 105, 120]), (.pl 1 7 [(iV 5), (.str [62]), (iV 0), fV, fV, fV, .nils]), fV])])
theorem rul5_run : frzO (runK2 14 [sh5] Hp.empty) = some rul5V := by kernel_rfl
noncomputable def can0V : V := (.str [100, 101, 99, 105, 109, 97, 108])
theorem can0_run : frzO (runK2 34 [.str [100, 101, 99, 105, 109, 97, 108]] Hp.empty) = some can0V := by kernel_rfl
noncomputable def can1V : V := (.str [116])
theorem can1_run : frzO (runK2 34 [.str [116]] Hp.empty) = some can1V := by kernel_rfl
noncomputable def can2V : V := (.str [115, 48])
theorem can2_run : frzO (runK2 34 [.str [115, 48]] Hp.empty) = some can2V := by kernel_rfl
noncomputable def can3V : V := (.str [115, 49])
theorem can3_run : frzO (runK2 34 [.str [115, 49]] Hp.empty) = some can3V := by kernel_rfl
noncomputable def can4V : V := (.str [115, 50])
theorem can4_run : frzO (runK2 34 [.str [115, 50]] Hp.empty) = some can4V := by kernel_rfl
noncomputable def can5V : V := (.str [115, 51])
theorem can5_run : frzO (runK2 34 [.str [115, 51]] Hp.empty) = some can5V := by kernel_rfl
noncomputable def can6V : V := (.str [115, 52])
theorem can6_run : frzO (runK2 34 [.str [115, 52]] Hp.empty) = some can6V := by kernel_rfl
noncomputable def can7V : V := (.str [115, 53])
theorem can7_run : frzO (runK2 34 [.str [115, 53]] Hp.empty) = some can7V := by kernel_rfl
noncomputable def can10V : V := (.str [108, 111, 119, 101, 114, 45, 114, 111, 109, 97, 110])
theorem can10_run : frzO (runK2 34 [.str [108, 111, 119, 101, 114, 45, 114, 111, 109, 97, 110]] Hp.empty) = some can10V := by kernel_rfl
noncomputable def can14V : V := (.str [97])
theorem can14_run : frzO (runK2 34 [.str [97]] Hp.empty) = some can14V := by kernel_rfl
noncomputable def can18V : V := (.str [110, 111, 98, 111, 100, 121])
theorem can18_run : frzO (runK2 34 [.str [110, 111, 98, 111, 100, 121]] Hp.empty) = some can18V := by kernel_rfl
noncomputable def can22V : V := (.str [108, 111, 119, 101, 114, 45, 97, 108, 112, 104, 97])
theorem can22_run : frzO (runK2 34 [.str [108, 111, 119, 101, 114, 45, 97, 108, 112, 104, 97]] Hp.empty) = some can22V := by kernel_rfl
end Go.Proofs.YtmgjgdnjkgnbiaaGreatDoor.HM
