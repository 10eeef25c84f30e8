/- The ring: the next act of one who pushes or pops, all states. -/
import Derived.Test.YtoecoijmkjhkgaaRing3pu0
import Derived.Test.YtoecoijmkjhkgaaRing3pu1
import Derived.Test.YtoecoijmkjhkgaaRing3pu2
import Derived.Test.YtoecoijmkjhkgaaRing3pu3
import Derived.Test.YtoecoijmkjhkgaaRing3pu4
import Derived.Test.YtoecoijmkjhkgaaRing3pu5
import Derived.Test.YtoecoijmkjhkgaaRing3po0
import Derived.Test.YtoecoijmkjhkgaaRing3po1
import Derived.Test.YtoecoijmkjhkgaaRing3po2
import Derived.Test.YtoecoijmkjhkgaaRing3po3
import Derived.Test.YtoecoijmkjhkgaaRing3po4
import Derived.Test.YtoecoijmkjhkgaaRing3po5
namespace Go.Proofs.Ytoecoijmkjhkgaa
open Go.RowKit

end Go.Proofs.Ytoecoijmkjhkgaa
