/- 2^255 - 19 is a prime. -/
import Derived.Test.YtclpbijalffdkaaPrime
import Derived.Test.YtclpbijalffdkaaNum
namespace Go.Eng
theorem pr_353 : Pr 353 := prime_small 20 (by decide) (by decide) (by decide +kernel)
theorem pr_47 : Pr 47 := prime_small 6 (by decide) (by decide) (by decide +kernel)
theorem pr_75707 : Pr 75707 := prime_small 300 (by decide) (by decide) (by decide +kernel)
theorem pr_8574133 : Pr 8574133 := prime_small 3000 (by decide) (by decide) (by decide +kernel)
theorem pr_c : Pr 1919519569386763 :=
  prime_pm2 (q := 8574133) (s := 47) (a := 2) (m := 223873314) (k := 40840841901846) (v := 1059928654987441) (u := 621931926534591) 64 (by decide) pr_8574133 pr_47 (by decide +kernel) (by decide +kernel) (by decide +kernel) (by decide +kernel) (by decide +kernel) (by decide +kernel) (by decide +kernel) (by decide +kernel) (by decide +kernel) (by decide +kernel) (by decide +kernel) (by decide +kernel) (by decide +kernel) (by decide +kernel)
theorem pr_b : Pr 75445702479781427272750846543864801 :=
  prime_pm2 (q := 1919519569386763) (s := 75707) (a := 2) (m := 39304471641247389600) (k := 996548568557483816196003626400) (v := 56747016255153332959347766392083459) (u := 58781699294900834553279248901967638) 128 (by decide) pr_c pr_75707 (by decide +kernel) (by decide +kernel) (by decide +kernel) (by decide +kernel) (by decide +kernel) (by decide +kernel) (by decide +kernel) (by decide +kernel) (by decide +kernel) (by decide +kernel) (by decide +kernel) (by decide +kernel) (by decide +kernel) (by decide +kernel)
theorem pr_a : Pr 74058212732561358302231226437062788676166966415465897661863160754340907 :=
  prime_pm2 (q := 75445702479781427272750846543864801) (s := 353) (a := 2) (m := 981609426360740691344999861639072106) (k := 209796636636151156663544550813209033076960244803019540118592523383402) (v := 69490809710348678725736597923071784769591275419387514694139338586948360) (u := 8562916886866218785688304546164188478888058893729309188831496247839076) 256 (by decide) pr_b pr_353 (by decide +kernel) (by decide +kernel) (by decide +kernel) (by decide +kernel) (by decide +kernel) (by decide +kernel) (by decide +kernel) (by decide +kernel) (by decide +kernel) (by decide +kernel) (by decide +kernel) (by decide +kernel) (by decide +kernel) (by decide +kernel)
theorem prP : Pr P255 :=
  prime_pm1 (q := 74058212732561358302231226437062788676166966415465897661863160754340907) (a := 2) (m := 781764) (v := 427094198651976259540344842774561673889945192655078505504941250475370961481) 256 (by decide) pr_a (by decide +kernel) (by decide +kernel) (by decide +kernel) (by decide +kernel) (by decide +kernel) (by decide +kernel) (by decide +kernel) (by decide +kernel)
end Go.Eng
