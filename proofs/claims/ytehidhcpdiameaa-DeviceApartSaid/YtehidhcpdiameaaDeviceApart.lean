/- The statement DeviceApart: the law's own walk, joined. -/
import Derived.Test.YtehidhcpdiameaaDeviceApart1
namespace Go.Proofs.Ytehidhcpdiameaa
open Go.RowKit

theorem deviceApart_walk (w : World) (d : Dev.Disk) (v : Value) (x y : PutIn) (hD : DiskIn w v d ∧ d.fuse ≤ 9223372036854775807) (hx : x.Ok w) (hy : y.Ok w) :
    Calls Try.prog 22 #[v, x.val, y.val] w fun e w' => e = .returned (.bool true) ∧ Ext w w' := by
  obtain ⟨D, hfu⟩ := hD
  cases hs : Dev.small d with
  | false => exact deviceApart_no0 w v d D x y hx hy hs
  | true =>
    cases hm : Dev.may d with
    | false => exact deviceApart_no1 w v d D x y hx hy hs hm
    | true =>
      cases hd : d.dead with
      | true => exact deviceApart_no2 w v d D x y hx hy hs hm hd
      | false =>
        by_cases hf : d.fuse < 0
        · by_cases hxy : x.at_ ≠ y.at_
          · by_cases he : (Dev.write d x.at_ x.text).2 = 0
            · by_cases hf0 : (Dev.write (Dev.write d x.at_ x.text).1 y.at_ y.text).2 = 0
              · exact deviceApart_live2 w v d D x y hx hy hs hm hd hf hxy hfu he hf0
              · exact deviceApart_live1 w v d D x y hx hy hs hm hd hf hxy hfu he hf0
            · exact deviceApart_live0 w v d D x y hx hy hs hm hd hf hxy hfu he
          · exact deviceApart_no4 w v d D x y hx hy hs hm hd hf hxy
        · exact deviceApart_no3 w v d D x y hx hy hs hm hd hf
end Go.Proofs.Ytehidhcpdiameaa
