/- The three texts that the day laws begin with: what they are parsed to; and what matches them. -/
import Derived.Test.YtkdejfedigiohaaGreatDoorSpecP
import Derived.Test.YtkdejfedigiohaaGreatDoorLex2
import Derived.Test.YtkdejfedigiohaaGreatDoorDayQ
namespace Go.Proofs.YtkdejfedigiohaaGreatDoor
open Go.RowKit Go.Proofs.YtkdejfedigiohaaGreatDoorW.PrintWords Go.Proofs.YtkdejfedigiohaaGreatDoorW.PrintLast Go.Proofs.YtkdejfedigiohaaGreatDoorW.PrintMore
set_option linter.unusedVariables false
set_option linter.unusedSimpArgs false

open Go.Proofs.YtkdejfedigiohaaGreatDoor.PR

theorem item_star (kind : Int) (h0 : 0 ≤ kind) (h1 : kind ≤ 4) : ItemOk kind ⟨#[42]⟩ (lexLo kind) (lexHi kind) 1 where
  k0 := h0
  k1 := h1
  lo0 := by unfold lexLo; split <;> omega
  hi1 := by unfold lexHi; repeat' split <;> omega
  st0 := by omega
  st1 := by omega
  size := by decide
  ex := ⟨⟨#[42]⟩, ⟨#[]⟩, false, 1, _, by decide +kernel, by decide, by decide, by decide +kernel, by decide +kernel, rfl, by omega, (fun h => by cases h), .inl ⟨by decide +kernel, rfl, rfl⟩, .inl ⟨rfl, rfl⟩⟩
theorem item_num (t : ByteArray) (kind v : Int) (h0 : 0 ≤ kind) (h1 : kind ≤ 4) (v0 : 0 ≤ v) (v1 : v ≤ 59) (hs : t.size < 4294967281) (hp : 0 < t.size) (hd : digI (t[0].toNat : Int) = true)
    (hcut : Lib.cut t.data.toList [47] = (t.data.toList, (⟨#[]⟩ : ByteArray).data.toList, false)) (hc : Lib.countB t ⟨#[45]⟩ = 0) (hsp : Lib.splitB ⟨#[45]⟩ 0 0 t = [t]) (hns : t.toList ≠ [42]) (hn : rangeI kind (numL t.data.toList) = (v, 0)) :
    ItemOk kind t v v 1 where
  k0 := h0
  k1 := h1
  lo0 := v0
  hi1 := v1
  st0 := by omega
  st1 := by omega
  size := hs
  ex := ⟨t, ⟨#[]⟩, false, 1, #[.string t], hcut, hs, by decide, by decide +kernel, by rw [hc], by rw [hc, hsp]; rfl, by omega, (fun h => by cases h),
    .inr (.inl ⟨hns, rfl, rfl, t, rfl, fun w => by have := value_dig t kind w h0 h1 hp hd; rw [hn] at this; exact this⟩), .inl ⟨rfl, rfl⟩⟩
theorem pf_one (t : ByteArray) (kind : Int) (star : Bool) (lo hi st : Int) (hi' : ItemOk kind t lo hi st) (hstar : (t.toList == [42]) = star) (hc : Lib.countB t ⟨#[44]⟩ = 0) (hsp : Lib.splitB ⟨#[44]⟩ 0 0 t = [t]) : PF t kind star [(t, lo, hi, st)] where
  size := hi'.size
  star := hstar
  split := by rw [hc, hsp]; rfl
  n := by rw [hc]; rfl
  len := by simp
  items := by intro x hx; simp at hx; subst hx; exact hi'
theorem pf_star (kind : Int) (h0 : 0 ≤ kind) (h1 : kind ≤ 4) : PF ⟨#[42]⟩ kind true [(⟨#[42]⟩, lexLo kind, lexHi kind, 1)] := pf_one _ _ _ _ _ _ (item_star kind h0 h1) (by decide +kernel) (by decide +kernel) (by decide +kernel)

def tx0 : ByteArray := ⟨#[48]⟩
def tx12 : ByteArray := ⟨#[49, 50]⟩
def tx13 : ByteArray := ⟨#[49, 51]⟩
def tx5 : ByteArray := ⟨#[53]⟩
theorem pf0 : PF tx0 0 false [(tx0, 0, 0, 1)] := pf_one _ _ _ _ _ _ (item_num tx0 0 0 (by decide) (by decide) (by decide) (by decide) (by decide) (by decide) (by decide +kernel) (by decide +kernel) (by decide +kernel) (by decide +kernel) (by decide +kernel) (by decide +kernel)) (by decide +kernel) (by decide +kernel) (by decide +kernel)
theorem pf12 : PF tx12 1 false [(tx12, 12, 12, 1)] := pf_one _ _ _ _ _ _ (item_num tx12 1 12 (by decide) (by decide) (by decide) (by decide) (by decide) (by decide) (by decide +kernel) (by decide +kernel) (by decide +kernel) (by decide +kernel) (by decide +kernel) (by decide +kernel)) (by decide +kernel) (by decide +kernel) (by decide +kernel)
theorem pf13 : PF tx13 2 false [(tx13, 13, 13, 1)] := pf_one _ _ _ _ _ _ (item_num tx13 2 13 (by decide) (by decide) (by decide) (by decide) (by decide) (by decide) (by decide +kernel) (by decide +kernel) (by decide +kernel) (by decide +kernel) (by decide +kernel) (by decide +kernel)) (by decide +kernel) (by decide +kernel) (by decide +kernel)
theorem pf5 : PF tx5 4 false [(tx5, 5, 5, 1)] := pf_one _ _ _ _ _ _ (item_num tx5 4 5 (by decide) (by decide) (by decide) (by decide) (by decide) (by decide) (by decide +kernel) (by decide +kernel) (by decide +kernel) (by decide +kernel) (by decide +kernel) (by decide +kernel)) (by decide +kernel) (by decide +kernel) (by decide +kernel)

def gA : Sp := ⟨⟨1, false⟩, ⟨4096, false⟩, ⟨8192, false⟩, ⟨8190, true⟩, ⟨32, false⟩⟩
def gB : Sp := ⟨⟨1, false⟩, ⟨4096, false⟩, ⟨8192, false⟩, ⟨8190, true⟩, ⟨127, true⟩⟩
def gC : Sp := ⟨⟨1, false⟩, ⟨4096, false⟩, ⟨4294967294, true⟩, ⟨8190, true⟩, ⟨32, false⟩⟩
def txA : ByteArray := ⟨#[48, 32, 49, 50, 32, 49, 51, 32, 42, 32, 53]⟩
def txB : ByteArray := ⟨#[48, 32, 49, 50, 32, 49, 51, 32, 42, 32, 42]⟩
def txC : ByteArray := ⟨#[48, 32, 49, 50, 32, 42, 32, 42, 32, 53]⟩
theorem wA : wordsL txA = [tx0, tx12, tx13, ⟨#[42]⟩, tx5] := by decide +kernel
theorem wB : wordsL txB = [tx0, tx12, tx13, ⟨#[42]⟩, ⟨#[42]⟩] := by decide +kernel
theorem wC : wordsL txC = [tx0, tx12, ⟨#[42]⟩, ⟨#[42]⟩, tx5] := by decide +kernel
theorem b0 : bitsI 0 0 [(tx0, 0, 0, 1)] = 1 := by decide +kernel
theorem b12 : bitsI 1 0 [(tx12, 12, 12, 1)] = 4096 := by decide +kernel
theorem b13 : bitsI 2 0 [(tx13, 13, 13, 1)] = 8192 := by decide +kernel
theorem b5 : bitsI 4 0 [(tx5, 5, 5, 1)] = 32 := by decide +kernel
theorem bs2 : bitsI 2 0 [(⟨#[42]⟩, lexLo 2, lexHi 2, 1)] = 4294967294 := by decide +kernel
theorem bs3 : bitsI 3 0 [(⟨#[42]⟩, lexLo 3, lexHi 3, 1)] = 8190 := by decide +kernel
theorem bs4 : bitsI 4 0 [(⟨#[42]⟩, lexLo 4, lexHi 4, 1)] = 127 := by decide +kernel

theorem gA_ok : gA.Ok := ⟨by unfold U64; decide, by unfold U64; decide, by unfold U64; decide, by unfold U64; decide, by unfold U64; decide⟩
theorem gB_ok : gB.Ok := ⟨by unfold U64; decide, by unfold U64; decide, by unfold U64; decide, by unfold U64; decide, by unfold U64; decide⟩
theorem gC_ok : gC.Ok := ⟨by unfold U64; decide, by unfold U64; decide, by unfold U64; decide, by unfold U64; decide, by unfold U64; decide⟩
theorem gA_chk : (spChk gA).2 = 0 := by decide +kernel
theorem gB_chk : (spChk gB).2 = 0 := by decide +kernel
theorem gC_chk : (spChk gC).2 = 0 := by decide +kernel
theorem gA_mask : maskI gA 2026 11 = 135274560 := by decide +kernel
theorem gB_mask : maskI gB 2026 11 = 8192 := by decide +kernel
theorem gC_mask : maskI gC 2026 11 = 135274560 := by decide +kernel
theorem gA_min : minutesI gA = 1 := by decide +kernel
theorem gA_date1 : IsDate 20773 2026 11 16 := ⟨by decide, by decide, by decide, by decide, by decide, by decide, by decide +kernel⟩
theorem gA_date2 : IsDate 20770 2026 11 13 := ⟨by decide, by decide, by decide, by decide, by decide, by decide, by decide +kernel⟩
theorem gA_no : matchI gA 11 16 12 0 (weekI 20773) = false := by decide +kernel
theorem gA_yes : matchI gA 11 13 12 0 (weekI 20770) = true := by decide +kernel

end Go.Proofs.YtkdejfedigiohaaGreatDoor
