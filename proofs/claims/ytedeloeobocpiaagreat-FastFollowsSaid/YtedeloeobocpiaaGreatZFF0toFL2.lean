import Derived.Test.YtedeloeobocpiaaGreatZCL2toFW5
set_option linter.all false
set_option maxHeartbeats 8000000
namespace Go.Sh
open Go Go.Proofs
variable [Con]
def BP(sh kd ky pred pw curr cw sp:Int)(K:AVal→aB Ob→Prop):Prop:=True∧bif !bT sh kd ky then K (.agg [.bool true,.int .i64 1,.bool false,.int .i64 0,.int .i64 0,.int .u64 0,.int .i64 0,.bool false,.int .i64 0]) []else((0:Int)≤pw∧pw≤(18446744073709551615:Int))∧((0:Int)≤cw∧cw≤(18446744073709551615:Int))∧bif !ieq curr 0 then bif ieq kd 1 then bif !ieq (aA cw 0 10) ky then K (.agg [.bool false,.int .i64 0,.bool true,.int .i64 0,.int .i64 pred,.int .u64 pw,.int .i64 sp,.bool (ieq (aA pw 19 1) 1),.int .i64 0]) []else bif ieq kd 4 then K (.agg [.bool false,.int .i64 0,.bool true,.int .i64 0,.int .i64 pred,.int .u64 pw,.int .i64 sp,.bool (ieq (aA pw 19 1) 1),.int .i64 0]) []else bif ieq kd 2 then bif ieq (aA cw 0 10) ky then K (.agg [.bool false,.int .i64 0,.bool true,.int .i64 0,.int .i64 curr,.int .u64 cw,.int .i64 (aA cw 10 9),.bool true,.int .i64 0]) []else bif ieq kd 5 then bif !ieq curr 0 then bif ieq sh 3 then K (.agg [.bool false,.int .i64 0,.bool true,.int .i64 (aA cw 0 10),.int .i64 curr,.int .u64 cw,.int .i64 (aA cw 10 9),.bool true,.int .i64 0]) []else bif ieq kd 5 then bif !ieq curr 0 then K (.agg [.bool false,.int .i64 0,.bool true,.int .i64 (aA cw 0 10),.int .i64 pred,.int .u64 pw,.int .i64 (aA cw 10 9),.bool (ieq (aA pw 19 1) 1),.int .i64 curr]) []else bif ieq kd 3 then K (.agg [.bool true,.int .i64 0,.bool (ieq (aA cw 0 10) ky),.int .i64 0,.int .i64 0,.int .u64 0,.int .i64 0,.bool false,.int .i64 0]) []else K (.agg [.bool true,.int .i64 0,.bool false,.int .i64 0,.int .i64 0,.int .u64 0,.int .i64 0,.bool false,.int .i64 0]) []else bif ieq kd 3 then K (.agg [.bool true,.int .i64 0,.bool (ieq (aA cw 0 10) ky),.int .i64 0,.int .i64 0,.int .u64 0,.int .i64 0,.bool false,.int .i64 0]) []else K (.agg [.bool true,.int .i64 0,.bool false,.int .i64 0,.int .i64 0,.int .u64 0,.int .i64 0,.bool false,.int .i64 0]) []else bif ieq kd 5 then bif !ieq curr 0 then K (.agg [.bool false,.int .i64 0,.bool true,.int .i64 (aA cw 0 10),.int .i64 pred,.int .u64 pw,.int .i64 (aA cw 10 9),.bool (ieq (aA pw 19 1) 1),.int .i64 curr]) []else bif ieq kd 3 then K (.agg [.bool true,.int .i64 0,.bool (ieq (aA cw 0 10) ky),.int .i64 0,.int .i64 0,.int .u64 0,.int .i64 0,.bool false,.int .i64 0]) []else K (.agg [.bool true,.int .i64 0,.bool false,.int .i64 0,.int .i64 0,.int .u64 0,.int .i64 0,.bool false,.int .i64 0]) []else bif ieq kd 3 then K (.agg [.bool true,.int .i64 0,.bool (ieq (aA cw 0 10) ky),.int .i64 0,.int .i64 0,.int .u64 0,.int .i64 0,.bool false,.int .i64 0]) []else K (.agg [.bool true,.int .i64 0,.bool false,.int .i64 0,.int .i64 0,.int .u64 0,.int .i64 0,.bool false,.int .i64 0]) []else bif ieq kd 5 then bif !ieq curr 0 then K (.agg [.bool false,.int .i64 0,.bool true,.int .i64 (aA cw 0 10),.int .i64 pred,.int .u64 pw,.int .i64 (aA cw 10 9),.bool (ieq (aA pw 19 1) 1),.int .i64 curr]) []else bif ieq kd 3 then K (.agg [.bool true,.int .i64 0,.bool (ieq (aA cw 0 10) ky),.int .i64 0,.int .i64 0,.int .u64 0,.int .i64 0,.bool false,.int .i64 0]) []else K (.agg [.bool true,.int .i64 0,.bool false,.int .i64 0,.int .i64 0,.int .u64 0,.int .i64 0,.bool false,.int .i64 0]) []else bif ieq kd 3 then K (.agg [.bool true,.int .i64 0,.bool (ieq (aA cw 0 10) ky),.int .i64 0,.int .i64 0,.int .u64 0,.int .i64 0,.bool false,.int .i64 0]) []else K (.agg [.bool true,.int .i64 0,.bool false,.int .i64 0,.int .i64 0,.int .u64 0,.int .i64 0,.bool false,.int .i64 0]) []else bif ieq kd 5 then bif !ieq curr 0 then bif ieq sh 3 then K (.agg [.bool false,.int .i64 0,.bool true,.int .i64 (aA cw 0 10),.int .i64 curr,.int .u64 cw,.int .i64 (aA cw 10 9),.bool true,.int .i64 0]) []else bif ieq kd 5 then bif !ieq curr 0 then K (.agg [.bool false,.int .i64 0,.bool true,.int .i64 (aA cw 0 10),.int .i64 pred,.int .u64 pw,.int .i64 (aA cw 10 9),.bool (ieq (aA pw 19 1) 1),.int .i64 curr]) []else bif ieq kd 3 then K (.agg [.bool true,.int .i64 0,.bool (ieq (aA cw 0 10) ky),.int .i64 0,.int .i64 0,.int .u64 0,.int .i64 0,.bool false,.int .i64 0]) []else K (.agg [.bool true,.int .i64 0,.bool false,.int .i64 0,.int .i64 0,.int .u64 0,.int .i64 0,.bool false,.int .i64 0]) []else bif ieq kd 3 then K (.agg [.bool true,.int .i64 0,.bool (ieq (aA cw 0 10) ky),.int .i64 0,.int .i64 0,.int .u64 0,.int .i64 0,.bool false,.int .i64 0]) []else K (.agg [.bool true,.int .i64 0,.bool false,.int .i64 0,.int .i64 0,.int .u64 0,.int .i64 0,.bool false,.int .i64 0]) []else bif ieq kd 5 then bif !ieq curr 0 then K (.agg [.bool false,.int .i64 0,.bool true,.int .i64 (aA cw 0 10),.int .i64 pred,.int .u64 pw,.int .i64 (aA cw 10 9),.bool (ieq (aA pw 19 1) 1),.int .i64 curr]) []else bif ieq kd 3 then K (.agg [.bool true,.int .i64 0,.bool (ieq (aA cw 0 10) ky),.int .i64 0,.int .i64 0,.int .u64 0,.int .i64 0,.bool false,.int .i64 0]) []else K (.agg [.bool true,.int .i64 0,.bool false,.int .i64 0,.int .i64 0,.int .u64 0,.int .i64 0,.bool false,.int .i64 0]) []else bif ieq kd 3 then K (.agg [.bool true,.int .i64 0,.bool (ieq (aA cw 0 10) ky),.int .i64 0,.int .i64 0,.int .u64 0,.int .i64 0,.bool false,.int .i64 0]) []else K (.agg [.bool true,.int .i64 0,.bool false,.int .i64 0,.int .i64 0,.int .u64 0,.int .i64 0,.bool false,.int .i64 0]) []else bif ieq kd 5 then bif !ieq curr 0 then K (.agg [.bool false,.int .i64 0,.bool true,.int .i64 (aA cw 0 10),.int .i64 pred,.int .u64 pw,.int .i64 (aA cw 10 9),.bool (ieq (aA pw 19 1) 1),.int .i64 curr]) []else bif ieq kd 3 then K (.agg [.bool true,.int .i64 0,.bool (ieq (aA cw 0 10) ky),.int .i64 0,.int .i64 0,.int .u64 0,.int .i64 0,.bool false,.int .i64 0]) []else K (.agg [.bool true,.int .i64 0,.bool false,.int .i64 0,.int .i64 0,.int .u64 0,.int .i64 0,.bool false,.int .i64 0]) []else bif ieq kd 3 then K (.agg [.bool true,.int .i64 0,.bool (ieq (aA cw 0 10) ky),.int .i64 0,.int .i64 0,.int .u64 0,.int .i64 0,.bool false,.int .i64 0]) []else K (.agg [.bool true,.int .i64 0,.bool false,.int .i64 0,.int .i64 0,.int .u64 0,.int .i64 0,.bool false,.int .i64 0]) []else bif ieq kd 4 then K (.agg [.bool false,.int .i64 0,.bool true,.int .i64 0,.int .i64 pred,.int .u64 pw,.int .i64 sp,.bool (ieq (aA pw 19 1) 1),.int .i64 0]) []else bif ieq kd 2 then bif ieq (aA cw 0 10) ky then K (.agg [.bool false,.int .i64 0,.bool true,.int .i64 0,.int .i64 curr,.int .u64 cw,.int .i64 (aA cw 10 9),.bool true,.int .i64 0]) []else bif ieq kd 5 then bif !ieq curr 0 then bif ieq sh 3 then K (.agg [.bool false,.int .i64 0,.bool true,.int .i64 (aA cw 0 10),.int .i64 curr,.int .u64 cw,.int .i64 (aA cw 10 9),.bool true,.int .i64 0]) []else bif ieq kd 5 then bif !ieq curr 0 then K (.agg [.bool false,.int .i64 0,.bool true,.int .i64 (aA cw 0 10),.int .i64 pred,.int .u64 pw,.int .i64 (aA cw 10 9),.bool (ieq (aA pw 19 1) 1),.int .i64 curr]) []else bif ieq kd 3 then K (.agg [.bool true,.int .i64 0,.bool (ieq (aA cw 0 10) ky),.int .i64 0,.int .i64 0,.int .u64 0,.int .i64 0,.bool false,.int .i64 0]) []else K (.agg [.bool true,.int .i64 0,.bool false,.int .i64 0,.int .i64 0,.int .u64 0,.int .i64 0,.bool false,.int .i64 0]) []else bif ieq kd 3 then K (.agg [.bool true,.int .i64 0,.bool (ieq (aA cw 0 10) ky),.int .i64 0,.int .i64 0,.int .u64 0,.int .i64 0,.bool false,.int .i64 0]) []else K (.agg [.bool true,.int .i64 0,.bool false,.int .i64 0,.int .i64 0,.int .u64 0,.int .i64 0,.bool false,.int .i64 0]) []else bif ieq kd 5 then bif !ieq curr 0 then K (.agg [.bool false,.int .i64 0,.bool true,.int .i64 (aA cw 0 10),.int .i64 pred,.int .u64 pw,.int .i64 (aA cw 10 9),.bool (ieq (aA pw 19 1) 1),.int .i64 curr]) []else bif ieq kd 3 then K (.agg [.bool true,.int .i64 0,.bool (ieq (aA cw 0 10) ky),.int .i64 0,.int .i64 0,.int .u64 0,.int .i64 0,.bool false,.int .i64 0]) []else K (.agg [.bool true,.int .i64 0,.bool false,.int .i64 0,.int .i64 0,.int .u64 0,.int .i64 0,.bool false,.int .i64 0]) []else bif ieq kd 3 then K (.agg [.bool true,.int .i64 0,.bool (ieq (aA cw 0 10) ky),.int .i64 0,.int .i64 0,.int .u64 0,.int .i64 0,.bool false,.int .i64 0]) []else K (.agg [.bool true,.int .i64 0,.bool false,.int .i64 0,.int .i64 0,.int .u64 0,.int .i64 0,.bool false,.int .i64 0]) []else bif ieq kd 5 then bif !ieq curr 0 then K (.agg [.bool false,.int .i64 0,.bool true,.int .i64 (aA cw 0 10),.int .i64 pred,.int .u64 pw,.int .i64 (aA cw 10 9),.bool (ieq (aA pw 19 1) 1),.int .i64 curr]) []else bif ieq kd 3 then K (.agg [.bool true,.int .i64 0,.bool (ieq (aA cw 0 10) ky),.int .i64 0,.int .i64 0,.int .u64 0,.int .i64 0,.bool false,.int .i64 0]) []else K (.agg [.bool true,.int .i64 0,.bool false,.int .i64 0,.int .i64 0,.int .u64 0,.int .i64 0,.bool false,.int .i64 0]) []else bif ieq kd 3 then K (.agg [.bool true,.int .i64 0,.bool (ieq (aA cw 0 10) ky),.int .i64 0,.int .i64 0,.int .u64 0,.int .i64 0,.bool false,.int .i64 0]) []else K (.agg [.bool true,.int .i64 0,.bool false,.int .i64 0,.int .i64 0,.int .u64 0,.int .i64 0,.bool false,.int .i64 0]) []else bif ieq kd 5 then bif !ieq curr 0 then bif ieq sh 3 then K (.agg [.bool false,.int .i64 0,.bool true,.int .i64 (aA cw 0 10),.int .i64 curr,.int .u64 cw,.int .i64 (aA cw 10 9),.bool true,.int .i64 0]) []else bif ieq kd 5 then bif !ieq curr 0 then K (.agg [.bool false,.int .i64 0,.bool true,.int .i64 (aA cw 0 10),.int .i64 pred,.int .u64 pw,.int .i64 (aA cw 10 9),.bool (ieq (aA pw 19 1) 1),.int .i64 curr]) []else bif ieq kd 3 then K (.agg [.bool true,.int .i64 0,.bool (ieq (aA cw 0 10) ky),.int .i64 0,.int .i64 0,.int .u64 0,.int .i64 0,.bool false,.int .i64 0]) []else K (.agg [.bool true,.int .i64 0,.bool false,.int .i64 0,.int .i64 0,.int .u64 0,.int .i64 0,.bool false,.int .i64 0]) []else bif ieq kd 3 then K (.agg [.bool true,.int .i64 0,.bool (ieq (aA cw 0 10) ky),.int .i64 0,.int .i64 0,.int .u64 0,.int .i64 0,.bool false,.int .i64 0]) []else K (.agg [.bool true,.int .i64 0,.bool false,.int .i64 0,.int .i64 0,.int .u64 0,.int .i64 0,.bool false,.int .i64 0]) []else bif ieq kd 5 then bif !ieq curr 0 then K (.agg [.bool false,.int .i64 0,.bool true,.int .i64 (aA cw 0 10),.int .i64 pred,.int .u64 pw,.int .i64 (aA cw 10 9),.bool (ieq (aA pw 19 1) 1),.int .i64 curr]) []else bif ieq kd 3 then K (.agg [.bool true,.int .i64 0,.bool (ieq (aA cw 0 10) ky),.int .i64 0,.int .i64 0,.int .u64 0,.int .i64 0,.bool false,.int .i64 0]) []else K (.agg [.bool true,.int .i64 0,.bool false,.int .i64 0,.int .i64 0,.int .u64 0,.int .i64 0,.bool false,.int .i64 0]) []else bif ieq kd 3 then K (.agg [.bool true,.int .i64 0,.bool (ieq (aA cw 0 10) ky),.int .i64 0,.int .i64 0,.int .u64 0,.int .i64 0,.bool false,.int .i64 0]) []else K (.agg [.bool true,.int .i64 0,.bool false,.int .i64 0,.int .i64 0,.int .u64 0,.int .i64 0,.bool false,.int .i64 0]) []else bif ieq kd 5 then bif !ieq curr 0 then K (.agg [.bool false,.int .i64 0,.bool true,.int .i64 (aA cw 0 10),.int .i64 pred,.int .u64 pw,.int .i64 (aA cw 10 9),.bool (ieq (aA pw 19 1) 1),.int .i64 curr]) []else bif ieq kd 3 then K (.agg [.bool true,.int .i64 0,.bool (ieq (aA cw 0 10) ky),.int .i64 0,.int .i64 0,.int .u64 0,.int .i64 0,.bool false,.int .i64 0]) []else K (.agg [.bool true,.int .i64 0,.bool false,.int .i64 0,.int .i64 0,.int .u64 0,.int .i64 0,.bool false,.int .i64 0]) []else bif ieq kd 3 then K (.agg [.bool true,.int .i64 0,.bool (ieq (aA cw 0 10) ky),.int .i64 0,.int .i64 0,.int .u64 0,.int .i64 0,.bool false,.int .i64 0]) []else K (.agg [.bool true,.int .i64 0,.bool false,.int .i64 0,.int .i64 0,.int .u64 0,.int .i64 0,.bool false,.int .i64 0]) []else bif ieq kd 1 then K (.agg [.bool false,.int .i64 0,.bool true,.int .i64 0,.int .i64 pred,.int .u64 pw,.int .i64 sp,.bool (ieq (aA pw 19 1) 1),.int .i64 0]) []else bif ieq kd 4 then K (.agg [.bool false,.int .i64 0,.bool true,.int .i64 0,.int .i64 pred,.int .u64 pw,.int .i64 sp,.bool (ieq (aA pw 19 1) 1),.int .i64 0]) []else bif ieq kd 2 then bif ieq kd 5 then bif !ieq curr 0 then bif ieq sh 3 then K (.agg [.bool false,.int .i64 0,.bool true,.int .i64 (aA cw 0 10),.int .i64 curr,.int .u64 cw,.int .i64 (aA cw 10 9),.bool true,.int .i64 0]) []else bif ieq kd 5 then bif !ieq curr 0 then K (.agg [.bool false,.int .i64 0,.bool true,.int .i64 (aA cw 0 10),.int .i64 pred,.int .u64 pw,.int .i64 (aA cw 10 9),.bool (ieq (aA pw 19 1) 1),.int .i64 curr]) []else bif ieq kd 3 then K (.agg [.bool true,.int .i64 0,.bool false,.int .i64 0,.int .i64 0,.int .u64 0,.int .i64 0,.bool false,.int .i64 0]) []else K (.agg [.bool true,.int .i64 0,.bool false,.int .i64 0,.int .i64 0,.int .u64 0,.int .i64 0,.bool false,.int .i64 0]) []else bif ieq kd 3 then K (.agg [.bool true,.int .i64 0,.bool false,.int .i64 0,.int .i64 0,.int .u64 0,.int .i64 0,.bool false,.int .i64 0]) []else K (.agg [.bool true,.int .i64 0,.bool false,.int .i64 0,.int .i64 0,.int .u64 0,.int .i64 0,.bool false,.int .i64 0]) []else bif ieq kd 5 then bif !ieq curr 0 then K (.agg [.bool false,.int .i64 0,.bool true,.int .i64 (aA cw 0 10),.int .i64 pred,.int .u64 pw,.int .i64 (aA cw 10 9),.bool (ieq (aA pw 19 1) 1),.int .i64 curr]) []else bif ieq kd 3 then K (.agg [.bool true,.int .i64 0,.bool false,.int .i64 0,.int .i64 0,.int .u64 0,.int .i64 0,.bool false,.int .i64 0]) []else K (.agg [.bool true,.int .i64 0,.bool false,.int .i64 0,.int .i64 0,.int .u64 0,.int .i64 0,.bool false,.int .i64 0]) []else bif ieq kd 3 then K (.agg [.bool true,.int .i64 0,.bool false,.int .i64 0,.int .i64 0,.int .u64 0,.int .i64 0,.bool false,.int .i64 0]) []else K (.agg [.bool true,.int .i64 0,.bool false,.int .i64 0,.int .i64 0,.int .u64 0,.int .i64 0,.bool false,.int .i64 0]) []else bif ieq kd 5 then bif !ieq curr 0 then K (.agg [.bool false,.int .i64 0,.bool true,.int .i64 (aA cw 0 10),.int .i64 pred,.int .u64 pw,.int .i64 (aA cw 10 9),.bool (ieq (aA pw 19 1) 1),.int .i64 curr]) []else bif ieq kd 3 then K (.agg [.bool true,.int .i64 0,.bool false,.int .i64 0,.int .i64 0,.int .u64 0,.int .i64 0,.bool false,.int .i64 0]) []else K (.agg [.bool true,.int .i64 0,.bool false,.int .i64 0,.int .i64 0,.int .u64 0,.int .i64 0,.bool false,.int .i64 0]) []else bif ieq kd 3 then K (.agg [.bool true,.int .i64 0,.bool false,.int .i64 0,.int .i64 0,.int .u64 0,.int .i64 0,.bool false,.int .i64 0]) []else K (.agg [.bool true,.int .i64 0,.bool false,.int .i64 0,.int .i64 0,.int .u64 0,.int .i64 0,.bool false,.int .i64 0]) []else bif ieq kd 5 then bif !ieq curr 0 then bif ieq sh 3 then K (.agg [.bool false,.int .i64 0,.bool true,.int .i64 (aA cw 0 10),.int .i64 curr,.int .u64 cw,.int .i64 (aA cw 10 9),.bool true,.int .i64 0]) []else bif ieq kd 5 then bif !ieq curr 0 then K (.agg [.bool false,.int .i64 0,.bool true,.int .i64 (aA cw 0 10),.int .i64 pred,.int .u64 pw,.int .i64 (aA cw 10 9),.bool (ieq (aA pw 19 1) 1),.int .i64 curr]) []else bif ieq kd 3 then K (.agg [.bool true,.int .i64 0,.bool false,.int .i64 0,.int .i64 0,.int .u64 0,.int .i64 0,.bool false,.int .i64 0]) []else K (.agg [.bool true,.int .i64 0,.bool false,.int .i64 0,.int .i64 0,.int .u64 0,.int .i64 0,.bool false,.int .i64 0]) []else bif ieq kd 3 then K (.agg [.bool true,.int .i64 0,.bool false,.int .i64 0,.int .i64 0,.int .u64 0,.int .i64 0,.bool false,.int .i64 0]) []else K (.agg [.bool true,.int .i64 0,.bool false,.int .i64 0,.int .i64 0,.int .u64 0,.int .i64 0,.bool false,.int .i64 0]) []else bif ieq kd 5 then bif !ieq curr 0 then K (.agg [.bool false,.int .i64 0,.bool true,.int .i64 (aA cw 0 10),.int .i64 pred,.int .u64 pw,.int .i64 (aA cw 10 9),.bool (ieq (aA pw 19 1) 1),.int .i64 curr]) []else bif ieq kd 3 then K (.agg [.bool true,.int .i64 0,.bool false,.int .i64 0,.int .i64 0,.int .u64 0,.int .i64 0,.bool false,.int .i64 0]) []else K (.agg [.bool true,.int .i64 0,.bool false,.int .i64 0,.int .i64 0,.int .u64 0,.int .i64 0,.bool false,.int .i64 0]) []else bif ieq kd 3 then K (.agg [.bool true,.int .i64 0,.bool false,.int .i64 0,.int .i64 0,.int .u64 0,.int .i64 0,.bool false,.int .i64 0]) []else K (.agg [.bool true,.int .i64 0,.bool false,.int .i64 0,.int .i64 0,.int .u64 0,.int .i64 0,.bool false,.int .i64 0]) []else bif ieq kd 5 then bif !ieq curr 0 then K (.agg [.bool false,.int .i64 0,.bool true,.int .i64 (aA cw 0 10),.int .i64 pred,.int .u64 pw,.int .i64 (aA cw 10 9),.bool (ieq (aA pw 19 1) 1),.int .i64 curr]) []else bif ieq kd 3 then K (.agg [.bool true,.int .i64 0,.bool false,.int .i64 0,.int .i64 0,.int .u64 0,.int .i64 0,.bool false,.int .i64 0]) []else K (.agg [.bool true,.int .i64 0,.bool false,.int .i64 0,.int .i64 0,.int .u64 0,.int .i64 0,.bool false,.int .i64 0]) []else bif ieq kd 3 then K (.agg [.bool true,.int .i64 0,.bool false,.int .i64 0,.int .i64 0,.int .u64 0,.int .i64 0,.bool false,.int .i64 0]) []else K (.agg [.bool true,.int .i64 0,.bool false,.int .i64 0,.int .i64 0,.int .u64 0,.int .i64 0,.bool false,.int .i64 0]) []
theorem C1(sh kd ky pred pw curr cw sp:Int)(K:AVal→aB Ob→Prop)(hK:BP sh kd ky pred pw curr cw sp K):cT' 78 [.int .i64 sh,.agg [.int .i64 kd,.int .i64 ky],.int .i64 pred,.int .u64 pw,.int .i64 curr,.int .u64 cw,.int .i64 sp] [] K:=by
 refine VV (cM' (E:=ETP) (by kernel_rfl) hK)
def CA(now:Bool)(code:Int)(okk:Bool)(val addr old nxt:Int)(mark:Bool)(pops:Int)(K:AVal→aB Ob→Prop):Prop:=bif now then K (.int .u64 0) []else bif ilt nxt 0 then K (.int .u64 0) []else bif ilt 511 nxt then K (.int .u64 0) []else((0:Int)≤old∧old≤(18446744073709551615:Int))∧(262144:Int)≠(0:Int)∧(((0:Int)≤aA old 0 10∧aA old 0 (10:Int)<(1024:Int))∧((0:Int)≤nxt∧nxt<(512:Int))∧((0:Int)≤(0:Int)∧(0:Int)<(32:Int))∧(0:Int)≤Int.tmod (W (aA old 25 18+1)) 262144∧Int.tmod (W (aA old 25 18+1)) (262144:Int)<(262144:Int))∧K (.int .u64 (bO (aA old 0 10) nxt mark 0 (Int.tmod (W (aA old 25 18+1)) 262144))) []
theorem D9(now:Bool)(code:Int)(okk:Bool)(val addr old nxt:Int)(mark:Bool)(pops:Int)(K:AVal→aB Ob→Prop)(hK:CA now code okk val addr old nxt mark pops K):cT' 83 [.agg [.bool now,.int .i64 code,.bool okk,.int .i64 val,.int .i64 addr,.int .u64 old,.int .i64 nxt,.bool mark,.int .i64 pops]] [] K:=by
 refine VV (cM' (E:=ETP) (by kernel_rfl) hK)
def BX(sh kd ky:Int)(K:AVal→aB Ob→Prop):Prop:=bif ieq sh 1 then K (.tup [.int .i64 0,.int .i64 ky]) []else bif ieq sh 2 then(4:Int)≠(0:Int)∧K (.tup [.int .i64 (Int.tmod ky 4),.int .i64 ky]) []else bif ieq sh 3 then bif ieq kd 4 then K (.tup [.int .i64 0,.int .i64 1024]) []else K (.tup [.int .i64 0,.int .i64 (-1:Int)]) []else K (.tup [.int .i64 0,.int .i64 (-1:Int)]) []
theorem DS(sh kd ky:Int)(K:AVal→aB Ob→Prop)(hK:BX sh kd ky K):cT' 75 [.agg [.int .i64 sh,.int .i64 kd,.int .i64 ky]] [] K:=by
 refine VV (cM' (E:=ETP) (by kernel_rfl) hK)
def B1(A:List (List Int))(t n me sp key nx:Int)(R:List Int)(s:TS)(K:AVal→aB Ob→Prop):Prop:=(lE' A∧okAW A∧(0:Int)≤s.1∧s.1≤(4000000000000000000:Int))∧ ∀(x:Int×TS),x=(a2 (tGot A s 1 sp),aG A s 1 sp)→((0:Int)≤x.1∧x.1≤(18446744073709551615:Int))∧(262144:Int)≠(0:Int)∧bif ilt key 0 then(lE' A∧(0:Int)≤(Prod.snd x).1∧(Prod.snd x).1≤(4000000000000000000:Int))∧ ∀(x_1:TS),x_1=dH A x.2 sp 0→K (.tup []) [some (.cells [.tslice 1 0 (List.length A) 5,.int .i64 x_1.1,.bool x_1.2,.bool x_1.3]),some (.tab [some .i64,some .i64,some .u64,some .u64,none] A),some (.cells [.int .i64 me,.int .i64 sp,.slice 3 0 (List.length R) 1]),some (.ints (some .i64) R)]else bif ilt 1023 key then(lE' A∧(0:Int)≤(Prod.snd x).1∧(Prod.snd x).1≤(4000000000000000000:Int))∧ ∀(x_1:TS),x_1=dH A x.2 sp 0→K (.tup []) [some (.cells [.tslice 1 0 (List.length A) 5,.int .i64 x_1.1,.bool x_1.2,.bool x_1.3]),some (.tab [some .i64,some .i64,some .u64,some .u64,none] A),some (.cells [.int .i64 me,.int .i64 sp,.slice 3 0 (List.length R) 1]),some (.ints (some .i64) R)]else bif ilt nx 0 then(lE' A∧(0:Int)≤(Prod.snd x).1∧(Prod.snd x).1≤(4000000000000000000:Int))∧ ∀(x_1:TS),x_1=dH A x.2 sp 0→K (.tup []) [some (.cells [.tslice 1 0 (List.length A) 5,.int .i64 x_1.1,.bool x_1.2,.bool x_1.3]),some (.tab [some .i64,some .i64,some .u64,some .u64,none] A),some (.cells [.int .i64 me,.int .i64 sp,.slice 3 0 (List.length R) 1]),some (.ints (some .i64) R)]else bif ilt 511 nx then(lE' A∧(0:Int)≤(Prod.snd x).1∧(Prod.snd x).1≤(4000000000000000000:Int))∧ ∀(x_1:TS),x_1=dH A x.2 sp 0→K (.tup []) [some (.cells [.tslice 1 0 (List.length A) 5,.int .i64 x_1.1,.bool x_1.2,.bool x_1.3]),some (.tab [some .i64,some .i64,some .u64,some .u64,none] A),some (.cells [.int .i64 me,.int .i64 sp,.slice 3 0 (List.length R) 1]),some (.ints (some .i64) R)]else(((0:Int)≤key∧key<(1024:Int))∧((0:Int)≤nx∧nx<(512:Int))∧((0:Int)≤(0:Int)∧(0:Int)<(32:Int))∧(0:Int)≤Int.tmod (W (aA x.1 25 18+1)) 262144∧Int.tmod (W (aA x.1 25 18+1)) (262144:Int)<(262144:Int))∧(lE' A∧(0:Int)≤(Prod.snd x).1∧(Prod.snd x).1≤(4000000000000000000:Int))∧ ∀(x_1:TS),x_1=dH A x.2 sp (bO key nx false 0 (Int.tmod (W (aA x.1 25 18+1)) 262144))→K (.tup []) [some (.cells [.tslice 1 0 (List.length A) 5,.int .i64 x_1.1,.bool x_1.2,.bool x_1.3]),some (.tab [some .i64,some .i64,some .u64,some .u64,none] A),some (.cells [.int .i64 me,.int .i64 sp,.slice 3 0 (List.length R) 1]),some (.ints (some .i64) R)]
theorem DU(A:List (List Int))(t n me sp key nx:Int)(R:List Int)(s:TS)(K:AVal→aB Ob→Prop)(hK:B1 A t n me sp key nx R s K):cT' 81 [.ptr 0 0,.agg [.int .i64 t,.int .i64 n],.ptr 2 0,.int .i64 key,.int .i64 nx] (cN A s++ [some (.cells [.int .i64 me,.int .i64 sp,.slice 3 0 R.length 1]),some (.ints (some .i64) R)]) K:=by
 refine VV (cM' (E:=ETP) (by kernel_rfl) hK)
theorem H3{sh kd ky pred pw curr cw sp:Int}(h:bT sh kd ky=false):aO sh kd ky pred pw curr cw sp=⟨true,1,false,0,0,0,0,false,0⟩:=by
 unfold aO oE
 simp only [Tr.val,h,Bool.not_false,cond_true]
theorem PA{sh kd ky pred pw curr cw sp:Int}{K:AVal→aB Ob→Prop}(h1:0≤pw∧pw≤18446744073709551615)(h2:0≤cw∧cw≤18446744073709551615)(hK:K (x6 (aO sh kd ky pred pw curr cw sp)) []):BP sh kd ky pred pw curr cw sp K:=by
 unfold BP
 refine⟨trivial,?_⟩
 cases hr:bT sh kd ky with
 | false=>
   rw [H3 hr]at hK
   exact hK
 | true=>
   refine⟨h1,h2,?_⟩
   unfold aO oE at hK
   simp only [Tr.val,hr,Bool.not_true,cond_false,eV,mK]at hK
   obtain⟨q,_⟩:=kK.1 hr
   have n12:ieq (1:Int) 2=false:=by decide
   cases hc:ieq curr 0<;>rw [hc]at hK<;>cases hf:ieq (aA cw 0 10) ky<;>rw [hf]at hK<;>rcases q with⟨q1 | q1,q2,q3⟩ | ⟨q1 | q1,q2 | q2⟩
   all_goals try (have qk:kd=1∨kd=2∨kd=3:=by omega)
   all_goals try (rcases qk with rfl | rfl | rfl)
   all_goals subst q1
   all_goals try subst q2
   all_goals exact hK
def forS:aL Ob:=fun args h=>match args,h with
 | [.int .i64 sh,.agg [.int .i64 kd,.int .i64 ky],.int .i64 pred,.int .u64 pw,.int .i64 curr,.int .u64 cw,.int .i64 sp],[]=>some (.pre ((0≤pw∧pw≤18446744073709551615)∧(0≤cw∧cw≤18446744073709551615)) (.ret (x6 (aO sh kd ky pred pw curr cw sp)) []))
 | _,_=>none
theorem O9:sT' 78 forS:=by
 intro args h o ho K hK
 unfold forS at ho
 split at ho
 case h_2=>cases ho
 simp only [sI']at ho;subst ho
 obtain⟨⟨h1,h2⟩,hK⟩:=hK
 exact C1 _ _ _ _ _ _ _ _ K (PA h1 h2 hK)
theorem F7(x:Int):aK x 9=true↔0≤x∧x<512:=by
 rw [dD];rw [show(2:Int)^(9:Int).toNat =512 from rfl]
theorem MV(x:Int):aK x 10=true↔0≤x∧x<1024:=by
 rw [dD];rw [show(2:Int)^(10:Int).toNat =1024 from rfl]
theorem SW(w:Int):(0≤Int.tmod (W (aA w 25 18+1)) 262144∧Int.tmod (W (aA w 25 18+1)) 262144<262144)∧Int.tmod (W (aA w 25 18+1)) 262144=aM (aA w 25 18)∧aK (aM (aA w 25 18)) 18=true:=by
 have h:=cE (x:=w) (a:=25) (w:=18)
 rw [show(2:Int)^(18:Int).toNat =262144 from rfl]at h
 have e:W (aA w 25 18+1)=aA w 25 18+1:=cO (by omega)
 have e2:Int.tmod (W (aA w 25 18+1)) 262144=(aA w 25 18+1)%262144:=by rw [e,Int.tmod_eq_emod_of_nonneg (by omega)]
 refine⟨by rw [e2];omega,e2,?_⟩
 rw [dD,show(2:Int)^(18:Int).toNat =262144 from rfl]
 unfold aM
 omega
theorem Q3{now:Bool}{code:Int}{okk:Bool}{val addr old nxt:Int}{mark:Bool}{pops:Int}{K:AVal→aB Ob→Prop}(h1:0≤old∧old≤18446744073709551615)(hK:K (.int .u64 (bA now code okk val addr old nxt mark pops)) []):CA now code okk val addr old nxt mark pops K:=by
 unfold CA
 unfold bA pA at hK
 simp only [Tr.val]at hK
 cases now with
 | true=>exact hK
 | false=>
   have hK:K (.int .u64 (bif bif aK (aA old 0 10) 10 then bif aK nxt 9 then bif aK 0 5 then aK (aM (aA old 25 18)) 18 else false else false else false then bO (aA old 0 10) nxt mark 0 (aM (aA old 25 18))else 0)) []:=hK
   have f0:aK (aA old 0 10) 10=true:=dD.2 cE
   obtain⟨t1,t2,t3⟩:=SW old
   have z5:aK 0 5=true:=by decide
   rw [f0,t3,z5]at hK
   simp only [cond_true]at hK
   show bif ilt nxt 0 then _ else _
   refine aF (fun e=>?_) (fun e=>aF (fun e2=>?_) (fun e2=>?_))
   ·rw [aX,dT']at e
    have f:aK nxt 9=false:=by
     cases q:aK nxt 9
     ·rfl
     ·have:=(F7 nxt).1 q;omega
    rw [f]at hK;exact hK
   ·rw [aX,dT']at e2
    have f:aK nxt 9=false:=by
     cases q:aK nxt 9
     ·rfl
     ·have:=(F7 nxt).1 q;omega
    rw [f]at hK;exact hK
   ·rw [aX,dF']at e e2
    have f:aK nxt 9=true:=(F7 nxt).2 (by omega)
    rw [f]at hK
    have c10:=cE (x:=old) (a:=0) (w:=10)
    rw [show(2:Int)^(10:Int).toNat =1024 from rfl]at c10
    refine⟨h1,by decide,⟨c10,by omega,by decide,t1⟩,?_⟩
    rw [t2];exact hK
def wrdS:aL Ob:=fun args h=>match args,h with
 | [.agg [.bool now,.int .i64 code,.bool okk,.int .i64 val,.int .i64 addr,.int .u64 old,.int .i64 nxt,.bool mark,.int .i64 pops]],[]=>some (.pre (0≤old∧old≤18446744073709551615) (.ret (.int .u64 (bA now code okk val addr old nxt mark pops)) []))
 | _,_=>none
theorem Q2:sT' 83 wrdS:=by
 intro args h o ho K hK
 unfold wrdS at ho
 split at ho
 case h_2=>cases ho
 simp only [sI']at ho;subst ho
 obtain⟨h1,hK⟩:=hK
 exact D9 _ _ _ _ _ _ _ _ _ K (Q3 h1 hK)
theorem P0{sh kd ky:Int}{K:AVal→aB Ob→Prop}(h1:bT sh kd ky=true)(hK:K (.tup [.int .i64 (cR sh ky),.int .i64 (fA sh kd ky)]) []):BX sh kd ky K:=by
 unfold BX
 unfold cR fA bL at hK
 obtain⟨q,q0,_⟩:=kK.1 h1
 rcases q with⟨q1 | q1,q2,q3⟩ | ⟨q1 | q1,q2 | q2⟩
 ·subst q1;exact hK
 ·subst q1
  have e:Int.tmod ky 4=ky%4:=Int.tmod_eq_emod_of_nonneg q0
  refine⟨by decide,?_⟩
  rw [e];exact hK
 ·subst q1 q2;exact hK
 ·subst q1 q2;exact hK
 ·subst q1 q2;exact hK
 ·subst q1 q2;exact hK
def plcS:aL Ob:=fun args h=>match args,h with
 | [.agg [.int .i64 sh,.int .i64 kd,.int .i64 ky]],[]=>some (.pre (bT sh kd ky=true) (.ret (.tup [.int .i64 (cR sh ky),.int .i64 (fA sh kd ky)]) []))
 | _,_=>none
theorem PZ:sT' 75 plcS:=by
 intro args h o ho K hK
 unfold plcS at ho
 split at ho
 case h_2=>cases ho
 simp only [sI']at ho;subst ho
 obtain⟨h1,hK⟩:=hK
 exact DS _ _ _ K (P0 h1 hK)
def prWd(key nx x:Int):Int:=bif bif aK key 10 then bif aK nx 9 then bif aK 0 5 then aK (aM (aA x 25 18)) 18 else false else false else false then bO key nx false 0 (aM (aA x 25 18))else 0
def vU(A:List (List Int))(s:TS)(sp key nx:Int):TS:=dH A (aG A s 1 sp) sp (prWd key nx (a2 (tGot A s 1 sp)))
theorem QC{A:List (List Int)}{t n me sp key nx:Int}{R:List Int}{s:TS}{K:AVal→aB Ob→Prop}(hA:okAW A)(hi:0≤s.i∧s.i≤3000000000000000000)(hK:K (.tup []) (cN A (vU A s sp key nx)++ [some (.cells [.int .i64 me,.int .i64 sp,.slice 3 0 R.length 1]),some (.ints (some .i64) R)])):B1 A t n me sp key nx R s K:=by
 unfold B1
 refine⟨⟨rfl,hA,by omega,by omega⟩,fun x ex=>?_⟩
 have b1:=oI A s 1 sp
 have w1:=hA.got s 1 sp
 obtain⟨v,s1⟩:=x
 simp only [pI']at ex
 obtain⟨ev,es⟩:=ex
 unfold vU at hK
 rw [←ev,←es]at hK
 rw [←es]at b1
 rw [←ev]at w1
 obtain⟨t1,t2,t3⟩:=SW v
 have z5:aK 0 5=true:=by decide
 refine⟨w1,by decide,?_⟩
 have hn: ∀b:Bool,(aK key 10=true∧aK nx 9=true)=(b=true)→prWd key nx v=bif b then bO key nx false 0 (aM (aA v 25 18))else 0:=by
  intro b hb
  unfold prWd
  rw [z5,t3]
  cases b with
  | true=>
    have:=hb.mpr rfl
    rw [this.1,this.2];rfl
  | false=>
    cases q1:aK key 10
    ·rfl
    ·cases q2:aK nx 9
     ·rfl
     ·exact absurd (hb.mp ⟨q1,q2⟩) (by decide)
 have rg:List.length A=List.length A∧(0:Int)≤s1.i∧s1.i≤(4000000000000000000:Int):=⟨rfl,by omega,by omega⟩
 have no:(¬(0≤key∧key<1024)∨ ¬(0≤nx∧nx<512))→prWd key nx v=0:=by
  intro h
  refine hn false ?_
  rw [MV,F7]
  refine propext ⟨fun c=>?_,fun c=>by cases c⟩
  rcases h with h | h
  ·exact(h c.1).elim
  ·exact(h c.2).elim
 refine aF (fun e=>?_) (fun e1=>aF (fun e=>?_) (fun e2=>aF (fun e=>?_) (fun e3=>aF (fun e=>?_) (fun e4=>?_))))
 ·rw [aX,dT']at e
  rw [no (.inl (by omega))]at hK
  exact⟨rg,fun x_1 e1=>by subst e1;exact hK⟩
 ·rw [aX,dT']at e
  rw [no (.inl (by omega))]at hK
  exact⟨rg,fun x_1 e1=>by subst e1;exact hK⟩
 ·rw [aX,dT']at e
  rw [no (.inr (by omega))]at hK
  exact⟨rg,fun x_1 e1=>by subst e1;exact hK⟩
 ·rw [aX,dT']at e
  rw [no (.inr (by omega))]at hK
  exact⟨rg,fun x_1 e1=>by subst e1;exact hK⟩
 ·rw [aX,dF']at e1 e2 e3 e4
  have hy:prWd key nx v=bO key nx false 0 (aM (aA v 25 18)):=by
   refine hn true ?_
   rw [MV,F7]
   exact propext ⟨fun _=>rfl,fun _=>⟨by omega,by omega⟩⟩
  rw [hy]at hK
  refine⟨⟨by omega,by omega,by decide,t1⟩,rg,fun x_1 e1=>?_⟩
  have e1:x_1=dH A s1 sp (bO key nx false 0 (Int.tmod (W (aA v 25 18+1)) 262144)):=e1
  rw [t2]at e1
  subst e1;exact hK
def prpS:aL Ob:=fun args h=>match args,h with
 | [.ptr 0 0,.agg [.int .i64 t,.int .i64 n],.ptr 2 0,.int .i64 key,.int .i64 nx],[e0,e1,some (.cells [.int .i64 me,.int .i64 sp,.slice 3 0 k 1]),some (.ints (some .i64) R)]=>(match eD [e0,e1]with
   | some (l,s,A)=>some (.pre (l=A.length∧k=R.length∧okAW A∧(0≤s.i∧s.i≤3000000000000000000)) (.all TS (fun p=>p=vU A s sp key nx) fun p=>.ret (.tup []) (cN A p++ [some (.cells [.int .i64 me,.int .i64 sp,.slice 3 0 R.length 1]),some (.ints (some .i64) R)])))
   | none=>none)
 | _,_=>none
theorem QB:sT' 81 prpS:=by
 intro args h o ho K hK
 unfold prpS at ho
 split at ho
 case h_2=>cases ho
 rename_i t n key nx e0 e1 me sp k R
 split at ho<;>cases ho
 rename_i l s A hm
 obtain⟨⟨hl,rfl,hA,hi⟩,hK⟩:=hK
 have hh:=d9 hm hl
 unfold cN at hh
 cases hh
 exact DU A t n me sp key nx R s K (QC hA hi (hK _ rfl))
def HQ:bE Ob:=fun args h=>match args,h with
 | [.agg [.int .i64 sh,.int .i64 kd,.int .i64 ky]],[]=>some (True,.bool (bL kd))
 | _,_=>none
theorem LD:sT' 49 HQ.spec:=by
 intro args h o ho K hK
 unfold bE.spec HQ at ho
 split at ho
 case h_2=>cases ho
 rename_i p v hp
 split at hp
 case h_2=>cases hp
 rename_i sh kd ky
 simp only [sI',pI']at hp
 obtain⟨rfl,rfl⟩:=hp
 simp only [sI']at ho;subst ho
 obtain⟨hp,hK⟩:=hK
 have hK:K (.bool (bL kd)) ([]:aB Ob):=hK
 refine VV (cM' (E:=ETP) (q:=bif ieq kd 1 then K (.bool true) []else K (.bool (ieq kd 4)) []) (by kernel_rfl) ?_)
 unfold bL at hK
 cases h:ieq kd 1<;>rw [h]at hK<;>exact hK
end Go.Sh
namespace Go.Sh
open Go Go.Proofs
variable [Con]
section
variable {t n:Int} {A:List (List Int)} {i:Nat} {me hd key lim:Int}
theorem DY(X0:FNS):RelA t n A i X0 ⟨(i:Int),false,false⟩ (fun y=>y=X0) (fun _=>False):=by
 intro X S e tr h0
 exact .inr (.inl ⟨i,Nat.le_refl _,tr.le,rfl,h0⟩)
theorem NC{K:AVal→aB Ob→Prop}(F:jN t n A i me hd key lim)
 (hK: ∀r,dE t n A i me hd key lim r→gQ A t n me hd key lim (J5 n hd i) r→K (.agg [.int .i64 r.pred,.int .u64 r.pw,.int .i64 r.curr,.int .u64 r.cw,.int .i64 r.tries,.slice 2 0 r.R.length 1,.bool r.ab]) (cN A r.s++ [some (.ints (some .i64) r.R)])):
 fnVC A t n me hd key lim i (okFN t n A i me hd key lim) (fC A) K:=by
 have f1:=F.len
 have f2:=F.ht
 have f3:=F.hn
 have f4:=F.hm
 have f5:=F.hh
 have f6:=F.hl
 have f7:=F.hi
 have z0:(0:Int)≤0∧(0:Int)≤18446744073709551615:=by decide
 have wH:W (W (n+1)+hd)=n+1+hd:=by
  have e:W (n+1)=n+1:=cO (by omega)
  rw [e];exact cO (by omega)
 unfold fnVC
 rw [wH]
 refine⟨aP (H:=dQ A t n me hd key lim (okFN t n A i me hd key lim) (fC A)) ⟨⟨(i:Int),false,false⟩,n+1+hd,0,0,0,0,[],0,false⟩ (by kernel_rfl) ⟨Int.le_refl _,by show(i:Int)≤_;omega,by show(0:Int)≤0∧(0:Int)≤lim;omega,by show(0:Int)≤(i:Int) - i;omega,by show(0:Int)≤0∧(0:Int)≤n;omega,z0,z0,fun q=>(by cases q),fun r g=>g,fun q=>(by cases q),?_⟩,fun x hx=>⟨trivial,?_⟩⟩
 ·refine(DY _).mono (fun y p=>?_) (fun y q=>q.elim)
  subst p
  exact⟨0,0,0,rfl⟩
 have x1:=hx.lo
 have x2:=hx.hi
 have x3:=hx.tr
 have x4:=hx.hR
 have x5:=hx.mv
 have wT:W (x.tries+1)=x.tries+1:=cO (by omega)
 rw [wT]
 refine aF (fun o=>?_) (fun o=>?_)
 ·have o:ovf x.s=false:=by
   show(bif x.1.2 then true else x.1.3)=false
   cases q:(bif x.1.2 then true else x.1.3)
   ·rfl
   ·rw [q]at o;cases o
  have rel:=hx.rel
  refine aF (fun l=>?_) (fun l=>?_)
  ·
   have l:x.loaded=false:=by
    cases q:x.loaded
    ·rfl
    ·have l:(!x.loaded)=true:=l
     rw [q]at l;cases l
   rw [l]at rel
   have R0:rl t n A i me hd key lim x.s (fun y=> ∃a b c,y=dP me (n+1+hd) key lim x.pred a b c x.tries x.R x.moves 0) (fun _=>False):=rel.mono (fun y p=>p) (fun y q=>by cases q.1)
   refine⟨⟨rfl,F.hA,by omega,by omega⟩,fun x_1 e1=>?_⟩
   obtain⟨v,s⟩:=x_1
   simp only [pI']at e1
   obtain⟨ev,es⟩:=e1
   have hv1:0≤v∧v≤18446744073709551615:=by rw [ev];exact F.hA.got x.s 1 x.pred
   have A1:Adv A 1 x.s s:=by rw [es];exact eH A x.s 1 _
   have b1:=A1.lo
   have b2:=A1.hi x2
   have R1: ∀ {P' Q':FNS→Prop},(∀(a b c:Int) (σ:MS),aD σ.xs x.pred=v→((fnF t n (dP me (n+1+hd) key lim x.pred a b c x.tries x.R x.moves 0) σ).d =false→P' (fnF t n (dP me (n+1+hd) key lim x.pred a b c x.tries x.R x.moves 0) σ).x)∧((fnF t n (dP me (n+1+hd) key lim x.pred a b c x.tries x.R x.moves 0) σ).d =true→Q' (fnF t n (dP me (n+1+hd) key lim x.pred a b c x.tries x.R x.moves 0) σ).x))→rl t n A i me hd key lim s P' Q':=by
    intro P' Q' g
    rw [es]
    refine RelA.load R0 (fun y σ p=>?_) (fun y σ p hv=>?_)
    ·obtain⟨a,b,c,rfl⟩:=p;exact MY rfl
    ·obtain⟨a,b,c,rfl⟩:=p;rw [←ev]at hv;exact g a b c σ hv
   have g0:fdS A t n me hd key lim x=gd0 A t n me hd key lim x v s:=by unfold fdS;rw [o,l,es,ev];rfl
   clear es ev
   refine⟨hv1,aF (fun m=>aF (fun q=>?_) (fun q=>?_)) (fun m=>⟨trivial,aF (fun o1=>?_) (fun o1=>⟨hv1,aF (fun z=>?_) (fun z=>?_)⟩)⟩)⟩
   ·refine hK ⟨s,0,0,0,0,x.tries+1,x.R,true⟩ (WN hx A1 (by decide) rfl (by show 0≤x.tries+1∧x.tries+1≤lim+1;omega) (by show(x.R.length:Int)≤_;omega) z0 z0 ?_) (hx.run _ (.done _ _ (by rw [g0];unfold gd0;rw [show mkW v=true from m,q];rfl)))
    refine R1 (fun a b c σ hv=>?_)
    rw [pU (x:=dP me (n+1+hd) key lim x.pred a b c x.tries x.R x.moves 0) rfl (by show mkW (aD σ.xs x.pred)=true;rw [hv];exact m) (by show ilt lim (W (x.tries+1))=true;rw [wT];exact q)]
    exact⟨fun q=>(by cases q),fun _=>⟨rfl,rfl,rfl,rfl,wT,rfl,rfl⟩⟩
   ·have q':=q
    rw [aX,dF']at q'
    refine aP (H:=dQ A t n me hd key lim (okFN t n A i me hd key lim) (fC A)) ⟨s,n+1+hd,v,0,0,x.tries+1,x.R,0,x.loaded⟩ (by kernel_rfl) (okFN.next F hx o (by rw [g0];unfold gd0;rw [show mkW v=true from m,q];rfl) A1 (by decide) (by show 0≤x.tries+1∧x.tries+1≤lim;omega) (by show(x.R.length:Int)≤s.i - i;omega) (by show(0:Int)≤0∧(0:Int)≤n;omega) hv1 z0 (fun q=>by have q:x.loaded=true:=q;rw [l]at q;cases q) ?_)
    show rl t n A i me hd key lim s (fun y=>bif x.loaded then _ else _) (fun y=>x.loaded=true∧_)
    rw [l]
    refine R1 (fun a b c σ hv=>?_)
    rw [pV (x:=dP me (n+1+hd) key lim x.pred a b c x.tries x.R x.moves 0) rfl (by show mkW (aD σ.xs x.pred)=true;rw [hv];exact m) (by show ilt lim (W (x.tries+1))=false;rw [wT];exact q)]
    exact⟨fun _=>⟨a,b,c,by unfold wY dP fnT1;rw [wT]⟩,fun q=>by cases q⟩
   ·refine hK ⟨s,x.pred,v,0,0,x.tries,x.R,false⟩ (WN hx A1 (by decide) rfl (by show 0≤x.tries∧x.tries≤lim+1;omega) (by show(x.R.length:Int)≤_;omega) hv1 z0 ?_) (hx.run _ (.done _ _ (by rw [g0];unfold gd0;rw [show mkW v=false from m,show ovf s=true from o1];rfl)))
    exact RelA.over (R1 (P':=fun _=>True) (Q':=fun _=>True) (fun a b c σ _=>⟨fun _=>trivial,fun _=>trivial⟩)) o1
   ·
    have z':nxW v=0:=by
     have z:ieq (nxW v) 0=true:=z
     rw [bC,beq_iff_eq]at z;exact z
    refine hK ⟨s,x.pred,v,0,0,x.tries,x.R,false⟩ (WN hx A1 (by decide) rfl (by show 0≤x.tries∧x.tries≤lim+1;omega) (by show(x.R.length:Int)≤_;omega) hv1 z0 ?_) (hx.run _ (.done _ _ (by rw [g0];unfold gd0;rw [show mkW v=false from m,show ovf s=false from o1,show ieq (nxW v) 0=true from z];rfl)))
    refine R1 (fun a b c σ hv=>?_)
    rw [nR (x:=dP me (n+1+hd) key lim x.pred a b c x.tries x.R x.moves 0) rfl (by show mkW (aD σ.xs x.pred)=false;rw [hv];exact m)]
    rw [show aD σ.xs (dP me (n+1+hd) key lim x.pred a b c x.tries x.R x.moves 0).pred =v from hv]
    refine⟨fun q=>?_,fun _=>⟨rfl,rfl,z',rfl,rfl,rfl,rfl⟩⟩
    have q:ieq (nxW v) 0=false:=q
    rw [z']at q;cases q
   ·have z':nxW v≠0:=by
     have z:ieq (nxW v) 0=false:=z
     rw [bC,beq_eq_false_iff_ne]at z;exact z
    refine NJ F hx o (A1.le (by decide)) hv1 m ?_ (by rw [g0];unfold gd0;rw [show mkW v=false from m,show ovf s=false from o1,show ieq (nxW v) 0=false from z];rfl) hK
    refine R1 (fun a b c σ hv=>?_)
    rw [nR (x:=dP me (n+1+hd) key lim x.pred a b c x.tries x.R x.moves 0) rfl (by show mkW (aD σ.xs x.pred)=false;rw [hv];exact m)]
    rw [show aD σ.xs (dP me (n+1+hd) key lim x.pred a b c x.tries x.R x.moves 0).pred =v from hv]
    refine⟨fun _=>rfl,fun q=>?_⟩
    have q:ieq (nxW v) 0=true:=q
    rw [bC,beq_iff_eq]at q;exact(z' q).elim
  ·
   have l:x.loaded=true:=by
    cases q:x.loaded
    ·have l:(!x.loaded)=false:=l
     rw [q]at l;cases l
    ·rfl
   rw [l]at rel
   refine⟨trivial,aF (fun c=>?_) (fun _=>⟨hx.pw,aF (fun z=>?_) (fun z=>?_)⟩)⟩
   ·have c:ovf x.s=true:=c
    rw [o]at c;cases c
   ·have z':nxW x.pw=0:=by
     have z:ieq (nxW x.pw) 0=true:=z
     rw [bC,beq_iff_eq]at z;exact z
    by_cases hi:(i:Int)+1≤x.s.i
    ·refine hK ⟨x.s,x.pred,x.pw,0,0,x.tries,x.R,false⟩ ⟨rel.mono (fun y p=>?_) (fun y q=>?_),x1,x2,fun _=>hi,by show 0≤x.tries∧x.tries≤lim+1;omega,by show(x.R.length:Int)≤x.s.i - i;omega,hx.pw,z0,by show false=ilt lim x.tries;rw [aX];exact(decide_eq_false (by omega)).symm⟩ (hx.run _ (.done _ _ (by unfold fdS;rw [o,l,show ieq (nxW x.pw) 0=true from z];rfl)))
     ·exact p.2 z'
     ·rw [q.2.1];exact⟨rfl,rfl,rfl,rfl,rfl,rfl,rfl⟩
    ·rcases hx.b0 l with c | c
     ·exact(hi c).elim
     ·rw [o]at c;cases c
   ·have z':nxW x.pw≠0:=by
     have z:ieq (nxW x.pw) 0=false:=z
     rw [bC,beq_eq_false_iff_ne]at z;exact z
    refine NJ F hx o (XT _) hx.pw (hx.hk l) ?_ (by unfold fdS;rw [o,l,show ieq (nxW x.pw) 0=false from z];rfl) hK
    exact rel.mono (fun y p=>p.1) (fun y q=>(z' q.2.2))
 ·have o:ovf x.s=true:=by
   show(bif x.1.2 then true else x.1.3)=true
   cases q:(bif x.1.2 then true else x.1.3)
   ·rw [q]at o;cases o
   ·rfl
  refine hK ⟨x.s,x.pred,x.pw,x.curr,x.cw,x.tries,x.R,false⟩ ⟨RelA.over hx.rel o,x1,x2,fun q=>?_,by show 0≤x.tries∧x.tries≤lim+1;omega,by show(x.R.length:Int)≤x.s.i - i;omega,hx.pw,hx.cw,by show false=ilt lim x.tries;rw [aX];exact(decide_eq_false (by omega)).symm⟩ (hx.run _ (.done _ _ (by unfold fdS;rw [o];rfl)))
  have q:ovf x.s=false:=q
  rw [o]at q;cases q
end
noncomputable def fndF(A:List (List Int))(t n:Int)(s:TS)(me hd key lim:Int):FNR:=@dite _ (∃r,gQ A t n me hd key lim (J5 n hd s.i.toNat) r) (Classical.propDecidable _) (fun h=>Classical.choose h) (fun _=>⟨s,0,0,0,0,0,[],false⟩)
theorem BO{A:List (List Int)}{t n:Int}{s:TS}{me hd key lim:Int}{r:FNR}(h:gQ A t n me hd key lim (J5 n hd s.i.toNat) r):fndF A t n s me hd key lim=r:=by
 have q: ∃r,gQ A t n me hd key lim (J5 n hd s.i.toNat) r:=⟨r,h⟩
 unfold fndF
 rw [dif_pos q]
 exact(Classical.choose_spec q).one h
theorem SZ{P Q G:Prop}(h:P∧Q)(k:Q→G):G:=k h.2
theorem SY{α:Type}{a:α}{B:α→Prop}{G:Prop}(h: ∀x,x=a→B x)(k:B a→G):G:=k (h a rfl)
theorem S0{c:Bool}{X Y G:Prop}(h:cond c X Y)(k1:X→G)(k2:Y→G):G:=by cases c<;>first | exact k1 h | exact k2 h
theorem UB{A:List (List Int)}{t n me hd key lim:Int}{i:Nat}{x:FNX}{tm:List AVal}{h:aB Ob}{G:Prop}(q:cP (dQ A t n me hd key lim (okFN t n A i me hd key lim) (fC A)) (fun x'=>Hint.ok (dQ A t n me hd key lim (okFN t n A i me hd key lim) (fC A)) x'∧Hint.mu (dQ A t n me hd key lim (okFN t n A i me hd key lim) (fC A)) x'<Hint.mu (dQ A t n me hd key lim (okFN t n A i me hd key lim) (fC A)) x) tm h)(k: ∀x',okFN t n A i me hd key lim x'→fC A x'<fC A x→G):G:=by
 obtain⟨x',_,h2,h3⟩:=q
 exact k x' h2 h3
theorem O7{t n:Int}{A:List (List Int)}{i:Nat}{me hd key lim:Int}(F:jN t n A i me hd key lim): ∃r,dE t n A i me hd key lim r∧gQ A t n me hd key lim (J5 n hd i) r:=by
 have h:fnVC A t n me hd key lim i (okFN t n A i me hd key lim) (fC A) (fun _ _=> ∃r,dE t n A i me hd key lim r∧gQ A t n me hd key lim (J5 n hd i) r):=NC F (fun r p q=>⟨r,p,q⟩)
 generalize (∃r,dE t n A i me hd key lim r∧gQ A t n me hd key lim (J5 n hd i) r)=G at*
 unfold fnVC at h
 obtain⟨⟨x0,_,h0⟩,hb⟩:=h
 have ind: ∀(m:Nat) (x:FNX),okFN t n A i me hd key lim x→fC A x<m→G:=by
  intro m
  induction m with
  | zero=>intro x _ q;omega
  | succ m ih=>
    intro x hx hm
    have hk: ∀x',okFN t n A i me hd key lim x'→fC A x'<fC A x→G:=fun x' p q=>ih x' p (by omega)
    have h:=hb x hx
    unfold G3 at h
    clear hb ih hx hm h0
    revert h
    intro h
    repeat' (first | exact h | exact UB h hk | (refine S0 h (fun h=>?_) (fun h=>?_)) | (refine SY h (fun h=>?_)) | (refine SZ h (fun h=>?_)))
 exact ind _ x0 h0 (Nat.lt_succ_self _)
theorem xH{t n:Int}{A:List (List Int)}{s:TS}{me hd key lim:Int}(F:jN t n A s.i.toNat me hd key lim):dE t n A s.i.toNat me hd key lim (fndF A t n s me hd key lim):=by
 obtain⟨r,p,q⟩:=O7 F
 rw [BO q];exact p
noncomputable def fndS:aL Ob:=fun args h=>match args,eD h with
 | [.ptr 0 0,.agg [.int .i64 t,.int .i64 n],.int .i64 me,.int .i64 hd,.int .i64 key,.int .i64 lim],some (l,s,A)=>some (.pre (l=A.length∧s.bad=false∧s.out=false∧0≤s.i∧jN t n A s.i.toNat me hd key lim) (.ret (.agg [.int .i64 (fndF A t n s me hd key lim).pred,.int .u64 (fndF A t n s me hd key lim).pw,.int .i64 (fndF A t n s me hd key lim).curr,.int .u64 (fndF A t n s me hd key lim).cw,.int .i64 (fndF A t n s me hd key lim).tries,.slice 2 0 (fndF A t n s me hd key lim).R.length 1,.bool (fndF A t n s me hd key lim).ab]) (cN A (fndF A t n s me hd key lim).s ++ [some (.ints (some .i64) (fndF A t n s me hd key lim).R)])))
 | _,_=>none
theorem O8:sT' 77 fndS:=by
 intro args h o ho K hK
 unfold fndS at ho
 split at ho<;>cases ho
 rename_i t n me hd key lim l s A hm
 obtain⟨⟨hl,hb,hu,hi,F⟩,hK⟩:=hK
 have hh:=d9 hm hl
 subst hh
 obtain⟨i,bad,out⟩:=s
 have hb:bad=false:=hb
 have hu:out=false:=hu
 subst hb hu
 have hi:0≤i:=hi
 have ei:((i.toNat:Nat):Int)=i:=by omega
 have q:=zQ A t n me hd key lim (i.toNat:Int) (okFN t n A i.toNat me hd key lim) (fC A) K (NC F (fun r _ g=>by have e:=BO (s:=⟨i,false,false⟩) g;rw [←e];exact hK))
 rw [ei]at q
 exact q
noncomputable def EFD:=(((((ETP.addS 78 forS O9).addS 83 wrdS Q2).addS 75 plcS PZ).addS 81 (cU KA prpS) (cD QB)).addR 49 HQ LD).addS 77 (cU KA fndS) (cD O8)
noncomputable def EFG:=EFD.addS 82 (cU KA tcasS) (cD vO)
end Go.Sh
namespace Go.Sh
open Go Go.Proofs
variable [Con]
structure FTX where
 s:TS
 tries:Int
 R:List Int
def TQ(h:aB Ob):Bool:=match h with
 | _::_::_::some _::_=>true
 | _=>false
def HFA(A:List (List Int))(t n me sp sh kd ky most:Int)(ok:FTX→Prop)(mu:FTX→Nat):Hint Ob:= {X:=FTX,st:=fun x=>([.ptr 0 0,.O,.ptr 2 0,.O,.int .i64 most,.O,.ptr 4 0,.O,.ptr 5 0,.O,.ptr 6 0,.ptr 7 0,.int .i64 (cR sh ky),.int .i64 (fA sh kd ky)]++List.replicate 153 .O,cN A x.s++ [some (.cells [.int .i64 me,.int .i64 sp,.slice 3 0 x.R.length 1]),some (.ints (some .i64) x.R),some (.cells [.int .i64 t,.int .i64 n]),some (.cells [.int .i64 sh,.int .i64 kd,.int .i64 ky]),some (.cells [.int .i64 0,.bool false,.int .i64 0,.bool false,.int .i64 0]),some (.cells [.int .i64 0,.bool false,.int .i64 0,.bool false,.int .i64 x.tries])]),ok:=ok,mu:=mu,keep:=[0,2,4,6,8,10,11,12,13],sel:=fun _ h=>TQ h}
def yP(A:List (List Int))(t n me sp sh kd ky most:Int)(ok:FTX→Prop)(mu:FTX→Nat):Hint Ob:= {X:=FTX,st:=fun x=>([.ptr 0 0,.O,.ptr 2 0,.O,.int .i64 most,.O,.ptr 5 0,.O,.ptr 6 0,.O,.ptr 7 0,.ptr 8 0,.int .i64 (cR sh ky),.int .i64 (fA sh kd ky)]++List.replicate 153 .O,cN A x.s++ [some (.cells [.int .i64 me,.int .i64 sp,.slice 4 0 x.R.length 1]),none,some (.ints (some .i64) x.R),some (.cells [.int .i64 t,.int .i64 n]),some (.cells [.int .i64 sh,.int .i64 kd,.int .i64 ky]),some (.cells [.int .i64 0,.bool false,.int .i64 0,.bool false,.int .i64 0]),some (.cells [.int .i64 0,.bool false,.int .i64 0,.bool false,.int .i64 x.tries])]),ok:=ok,mu:=mu,keep:=[0,2,4,6,8,10,11,12,13] }
def TR(A:List (List Int))(s:TS)(me sp:Int)(R:List Int):aB Ob:=cN A s++ [some (.cells [.int .i64 me,.int .i64 sp,.slice 3 0 R.length 1]),some (.ints (some .i64) R)]
noncomputable def ff1(A:List (List Int))(t:Int)(n:Int)(me:Int)(sh:Int)(kd:Int)(ky:Int)(most:Int)(x2:FTX):=(fndF A t n x2.1 me (cR sh ky) (fA sh kd ky) (W (most - x2.2)))
noncomputable def ff2(A:List (List Int))(t:Int)(n:Int)(me:Int)(sh:Int)(kd:Int)(ky:Int)(most:Int)(x2:FTX):=(W (x2.2+(ff1 A t n me sh kd ky most x2).6))
noncomputable def ff3(A:List (List Int))(t:Int)(n:Int)(me:Int)(sh:Int)(kd:Int)(ky:Int)(most:Int)(x2:FTX):=(List.drop 0 (ff1 A t n me sh kd ky most x2).7)
noncomputable def ff4(A:List (List Int))(t:Int)(n:Int)(me:Int)(sh:Int)(kd:Int)(ky:Int)(most:Int)(x2:FTX):=(List.length (ff1 A t n me sh kd ky most x2).7)
noncomputable def ff5(A:List (List Int))(t:Int)(n:Int)(me:Int)(sh:Int)(kd:Int)(ky:Int)(most:Int)(x2:FTX):=(W (x2.2+(ff1 A t n me sh kd ky most x2).6)+1)
noncomputable def ff6(A:List (List Int))(t:Int)(n:Int)(me:Int)(sh:Int)(kd:Int)(ky:Int)(most:Int)(x2:FTX):=(List.length x2.3+List.length (ff1 A t n me sh kd ky most x2).7)
noncomputable def ff7(A:List (List Int))(t:Int)(n:Int)(me:Int)(sh:Int)(kd:Int)(ky:Int)(most:Int)(x2:FTX):=(List.length x2.3+List.length (ff1 A t n me sh kd ky most x2).7+1)
noncomputable def ff8(A:List (List Int))(t:Int)(n:Int)(me:Int)(sh:Int)(kd:Int)(ky:Int)(most:Int)(x2:FTX):=(x2.3++List.take (ff4 A t n me sh kd ky most x2) (ff3 A t n me sh kd ky most x2))
noncomputable def ff9(A:List (List Int))(t:Int)(n:Int)(me:Int)(sh:Int)(kd:Int)(ky:Int)(most:Int)(x2:FTX):=(List.length (ff8 A t n me sh kd ky most x2))
noncomputable def ff10(A:List (List Int))(t:Int)(n:Int)(me:Int)(sh:Int)(kd:Int)(ky:Int)(most:Int)(x2:FTX):=(List.length (ff8 A t n me sh kd ky most x2)+1)
noncomputable def ff11(A:List (List Int))(t:Int)(n:Int)(me:Int)(sp:Int)(sh:Int)(kd:Int)(ky:Int)(most:Int)(x2:FTX):=(aO sh kd ky (ff1 A t n me sh kd ky most x2).2 (ff1 A t n me sh kd ky most x2).3 (ff1 A t n me sh kd ky most x2).4 (ff1 A t n me sh kd ky most x2).5 sp)
noncomputable def ff12(A:List (List Int))(t:Int)(n:Int)(me:Int)(sp:Int)(sh:Int)(kd:Int)(ky:Int)(most:Int)(x2:FTX):=(aA (ff11 A t n me sp sh kd ky most x2).6 20 5)
noncomputable def OQ(A:List (List Int))(t:Int)(n:Int)(me:Int)(sp:Int)(sh:Int)(kd:Int)(ky:Int)(most:Int)(x2:FTX)(x_1:TS):=(tGot A x_1 3 (ff11 A t n me sp sh kd ky most x2).5)
noncomputable def ff14(A:List (List Int))(t:Int)(n:Int)(me:Int)(sp:Int)(sh:Int)(kd:Int)(ky:Int)(most:Int)(x2:FTX):=(tGot A (ff1 A t n me sh kd ky most x2).1 3 (ff11 A t n me sp sh kd ky most x2).5)
noncomputable def ff15(A:List (List Int))(t:Int)(n:Int)(me:Int)(sp:Int)(sh:Int)(kd:Int)(ky:Int)(most:Int)(x2:FTX):=(x2.3++List.take (ff4 A t n me sh kd ky most x2) (ff3 A t n me sh kd ky most x2)++ [(ff11 A t n me sp sh kd ky most x2).9])
noncomputable def OR(sh:Int)(kd:Int)(ky:Int)(most:Int):=((.ptr 0 0):: .O ::(.ptr 2 0):: .O ::(.int .i64 most):: .O ::(.ptr 5 0):: .O ::(.ptr 6 0):: .O ::(.ptr 7 0)::(.ptr 8 0)::(.int .i64 (cR sh ky))::(.int .i64 (fA sh kd ky))::nH 153 ([]))
noncomputable def ff17(A:List (List Int))(t:Int)(n:Int)(me:Int)(sp:Int)(sh:Int)(kd:Int)(ky:Int)(most:Int)(x2:FTX):=(bA (ff11 A t n me sp sh kd ky most x2).1 (ff11 A t n me sp sh kd ky most x2).2 (ff11 A t n me sp sh kd ky most x2).3 (ff11 A t n me sp sh kd ky most x2).4 (ff11 A t n me sp sh kd ky most x2).5 (ff11 A t n me sp sh kd ky most x2).6 (ff11 A t n me sp sh kd ky most x2).7 (ff11 A t n me sp sh kd ky most x2).8 (ff11 A t n me sp sh kd ky most x2).9)
noncomputable def jM(A:List (List Int))(t:Int)(n:Int)(me:Int)(sp:Int)(sh:Int)(kd:Int)(ky:Int)(most:Int)(x2:FTX)(x_1:TS):=(tCas A x_1 (ff11 A t n me sp sh kd ky most x2).5 (ff11 A t n me sp sh kd ky most x2).6 (ff17 A t n me sp sh kd ky most x2))
noncomputable def ff19(A:List (List Int))(t:Int)(n:Int)(me:Int)(sp:Int)(sh:Int)(kd:Int)(ky:Int)(most:Int)(x2:FTX):=(tCas A (ff1 A t n me sh kd ky most x2).1 (ff11 A t n me sp sh kd ky most x2).5 (ff11 A t n me sp sh kd ky most x2).6 (ff17 A t n me sp sh kd ky most x2))
def zO(A:List (List Int))(t n me sp sh kd ky most:Int)(ok:FTX→Prop)(mu:FTX→Nat)(K:AVal→aB Ob→Prop)(x2:FTX)(b:Nat):Prop:=(0+List.length (ff1 A t n me sh kd ky most x2).7≤List.length (ff1 A t n me sh kd ky most x2).7∧0=0∧lE' x2.3∧1=1∧List.length x2.3+List.length (ff1 A t n me sh kd ky most x2).7≤(4294967296:Nat))∧bif (ff1 A t n me sh kd ky most x2).8 then K (.agg [.int .i64 0,.bool false,.int .i64 0,.bool true,.int .i64 (ff2 A t n me sh kd ky most x2)]) [some (.cells [.tslice 1 0 (List.length A) 5,.int .i64 (FNR.s (ff1 A t n me sh kd ky most x2)).1,.bool (FNR.s (ff1 A t n me sh kd ky most x2)).2,.bool (FNR.s (ff1 A t n me sh kd ky most x2)).3]),some (.tab [some .i64,some .i64,some .u64,some .u64,none] A),some (.cells [.int .i64 me,.int .i64 sp,.slice 4 0 (ff6 A t n me sh kd ky most x2) 1]),none,some (.ints (some .i64) (ff8 A t n me sh kd ky most x2))]else((((0:Int)≤(ff1 A t n me sh kd ky most x2).3∧(ff1 A t n me sh kd ky most x2).3≤(18446744073709551615:Int))∧(0:Int)≤(ff1 A t n me sh kd ky most x2).5∧(ff1 A t n me sh kd ky most x2).5≤(18446744073709551615:Int))∧True)∧bif (ff11 A t n me sp sh kd ky most x2).1 then K (.agg [.int .i64 (ff11 A t n me sp sh kd ky most x2).2,.bool (ff11 A t n me sp sh kd ky most x2).3,.int .i64 (ff11 A t n me sp sh kd ky most x2).4,.bool false,.int .i64 (ff2 A t n me sh kd ky most x2)]) [some (.cells [.tslice 1 0 (List.length A) 5,.int .i64 (FNR.s (ff1 A t n me sh kd ky most x2)).1,.bool (FNR.s (ff1 A t n me sh kd ky most x2)).2,.bool (FNR.s (ff1 A t n me sh kd ky most x2)).3]),some (.tab [some .i64,some .i64,some .u64,some .u64,none] A),some (.cells [.int .i64 me,.int .i64 sp,.slice 4 0 (ff6 A t n me sh kd ky most x2) 1]),none,some (.ints (some .i64) (ff8 A t n me sh kd ky most x2))]else((0:Int)≤(ff11 A t n me sp sh kd ky most x2).6∧(ff11 A t n me sp sh kd ky most x2).6≤(18446744073709551615:Int))∧bif !ieq (ff12 A t n me sp sh kd ky most x2) 0 then(lE' A∧okAW A∧((0:Int)≤t∧t≤(100000:Int))∧((0:Int)≤n∧n≤(100000:Int))∧((0:Int)≤(FNR.s (ff1 A t n me sh kd ky most x2)).1∧(FNR.s (ff1 A t n me sh kd ky most x2)).1≤(4000000000000000000:Int))∧(FNR.s (ff1 A t n me sh kd ky most x2)).2=false∧(FNR.s (ff1 A t n me sh kd ky most x2)).3=false)∧ ∀(x_1:TS),x_1=pE A t n (ff1 A t n me sh kd ky most x2).1 (ff11 A t n me sp sh kd ky most x2).5→bif ilt most (W (ff5 A t n me sh kd ky most x2))then K (.agg [.int .i64 0,.bool false,.int .i64 0,.bool true,.int .i64 (W (ff5 A t n me sh kd ky most x2))]) [some (.cells [.tslice 1 0 (List.length A) 5,.int .i64 x_1.1,.bool x_1.2,.bool x_1.3]),some (.tab [some .i64,some .i64,some .u64,some .u64,none] A),some (.cells [.int .i64 me,.int .i64 sp,.slice 4 0 (ff6 A t n me sh kd ky most x2) 1]),none,some (.ints (some .i64) (ff8 A t n me sh kd ky most x2))]else cP (yP A t n me sp sh kd ky most ok mu) (fun x_2=>Hint.ok (yP A t n me sp sh kd ky most ok mu) x_2∧mG (some b) (Hint.mu (yP A t n me sp sh kd ky most ok mu) x_2)) (OR sh kd ky most) [some (.cells [.tslice 1 0 (List.length A) 5,.int .i64 x_1.1,.bool x_1.2,.bool x_1.3]),some (.tab [some .i64,some .i64,some .u64,some .u64,none] A),some (.cells [.int .i64 me,.int .i64 sp,.slice 4 0 (ff6 A t n me sh kd ky most x2) 1]),none,some (.ints (some .i64) (ff8 A t n me sh kd ky most x2)),some (.cells [.int .i64 t,.int .i64 n]),some (.cells [.int .i64 sh,.int .i64 kd,.int .i64 ky]),some (.cells [.int .i64 0,.bool false,.int .i64 0,.bool false,.int .i64 0]),some (.cells [.int .i64 0,.bool false,.int .i64 0,.bool false,.int .i64 (W (ff5 A t n me sh kd ky most x2))])]else True∧bif bL kd then(lE' A∧List.length x2.3+List.length (ff1 A t n me sh kd ky most x2).7=List.length (ff8 A t n me sh kd ky most x2)∧okAW A∧(0:Int)≤(FNR.s (ff1 A t n me sh kd ky most x2)).1∧(FNR.s (ff1 A t n me sh kd ky most x2)).1≤(3000000000000000000:Int))∧ ∀(x_1:TS),x_1=vU A (ff1 A t n me sh kd ky most x2).1 sp ky (ff1 A t n me sh kd ky most x2).4→(((0:Int)≤(ff11 A t n me sp sh kd ky most x2).6∧(ff11 A t n me sp sh kd ky most x2).6≤(18446744073709551615:Int))∧True)∧((lE' A∧(0:Int)≤x_1.1∧x_1.1≤(4611686018427387904:Int))∧True)∧bif a4 (OQ A t n me sp sh kd ky most x2 x_1)then True∧bif bL kd then bif !ieq (ff11 A t n me sp sh kd ky most x2).9 0 then(0=0∧lE' (ff8 A t n me sh kd ky most x2)∧1=1∧List.length (ff8 A t n me sh kd ky most x2)+(1:Nat)≤(4294967296:Nat))∧K (.agg [.int .i64 (ff11 A t n me sp sh kd ky most x2).2,.bool (ff11 A t n me sp sh kd ky most x2).3,.int .i64 (ff11 A t n me sp sh kd ky most x2).4,.bool false,.int .i64 (ff2 A t n me sh kd ky most x2)]) [some (.cells [.tslice 1 0 (List.length A) 5,.int .i64 (jM A t n me sp sh kd ky most x2 x_1).1,.bool (jM A t n me sp sh kd ky most x2 x_1).2,.bool (jM A t n me sp sh kd ky most x2 x_1).3]),some (.tab [some .i64,some .i64,some .u64,some .u64,none] A),some (.cells [.int .i64 me,.int .i64 0,.slice 4 0 (ff10 A t n me sh kd ky most x2) 1]),none,some (.ints (some .i64) (ff15 A t n me sp sh kd ky most x2))]else K (.agg [.int .i64 (ff11 A t n me sp sh kd ky most x2).2,.bool (ff11 A t n me sp sh kd ky most x2).3,.int .i64 (ff11 A t n me sp sh kd ky most x2).4,.bool false,.int .i64 (ff2 A t n me sh kd ky most x2)]) [some (.cells [.tslice 1 0 (List.length A) 5,.int .i64 (jM A t n me sp sh kd ky most x2 x_1).1,.bool (jM A t n me sp sh kd ky most x2 x_1).2,.bool (jM A t n me sp sh kd ky most x2 x_1).3]),some (.tab [some .i64,some .i64,some .u64,some .u64,none] A),some (.cells [.int .i64 me,.int .i64 0,.slice 4 0 (ff9 A t n me sh kd ky most x2) 1]),none,some (.ints (some .i64) (ff8 A t n me sh kd ky most x2))]else bif !ieq (ff11 A t n me sp sh kd ky most x2).9 0 then(0=0∧lE' (ff8 A t n me sh kd ky most x2)∧1=1∧List.length (ff8 A t n me sh kd ky most x2)+(1:Nat)≤(4294967296:Nat))∧K (.agg [.int .i64 (ff11 A t n me sp sh kd ky most x2).2,.bool (ff11 A t n me sp sh kd ky most x2).3,.int .i64 (ff11 A t n me sp sh kd ky most x2).4,.bool false,.int .i64 (ff2 A t n me sh kd ky most x2)]) [some (.cells [.tslice 1 0 (List.length A) 5,.int .i64 (jM A t n me sp sh kd ky most x2 x_1).1,.bool (jM A t n me sp sh kd ky most x2 x_1).2,.bool (jM A t n me sp sh kd ky most x2 x_1).3]),some (.tab [some .i64,some .i64,some .u64,some .u64,none] A),some (.cells [.int .i64 me,.int .i64 sp,.slice 4 0 (ff10 A t n me sh kd ky most x2) 1]),none,some (.ints (some .i64) (ff15 A t n me sp sh kd ky most x2))]else K (.agg [.int .i64 (ff11 A t n me sp sh kd ky most x2).2,.bool (ff11 A t n me sp sh kd ky most x2).3,.int .i64 (ff11 A t n me sp sh kd ky most x2).4,.bool false,.int .i64 (ff2 A t n me sh kd ky most x2)]) [some (.cells [.tslice 1 0 (List.length A) 5,.int .i64 (jM A t n me sp sh kd ky most x2 x_1).1,.bool (jM A t n me sp sh kd ky most x2 x_1).2,.bool (jM A t n me sp sh kd ky most x2 x_1).3]),some (.tab [some .i64,some .i64,some .u64,some .u64,none] A),some (.cells [.int .i64 me,.int .i64 sp,.slice 4 0 (ff9 A t n me sh kd ky most x2) 1]),none,some (.ints (some .i64) (ff8 A t n me sh kd ky most x2))]else bif ilt most (W (ff5 A t n me sh kd ky most x2))then K (.agg [.int .i64 0,.bool false,.int .i64 0,.bool true,.int .i64 (W (ff5 A t n me sh kd ky most x2))]) [some (.cells [.tslice 1 0 (List.length A) 5,.int .i64 (jM A t n me sp sh kd ky most x2 x_1).1,.bool (jM A t n me sp sh kd ky most x2 x_1).2,.bool (jM A t n me sp sh kd ky most x2 x_1).3]),some (.tab [some .i64,some .i64,some .u64,some .u64,none] A),some (.cells [.int .i64 me,.int .i64 sp,.slice 4 0 (ff9 A t n me sh kd ky most x2) 1]),none,some (.ints (some .i64) (ff8 A t n me sh kd ky most x2))]else cP (yP A t n me sp sh kd ky most ok mu) (fun x_2=>Hint.ok (yP A t n me sp sh kd ky most ok mu) x_2∧mG (some b) (Hint.mu (yP A t n me sp sh kd ky most ok mu) x_2)) (OR sh kd ky most) [some (.cells [.tslice 1 0 (List.length A) 5,.int .i64 (jM A t n me sp sh kd ky most x2 x_1).1,.bool (jM A t n me sp sh kd ky most x2 x_1).2,.bool (jM A t n me sp sh kd ky most x2 x_1).3]),some (.tab [some .i64,some .i64,some .u64,some .u64,none] A),some (.cells [.int .i64 me,.int .i64 sp,.slice 4 0 (ff9 A t n me sh kd ky most x2) 1]),none,some (.ints (some .i64) (ff8 A t n me sh kd ky most x2)),some (.cells [.int .i64 t,.int .i64 n]),some (.cells [.int .i64 sh,.int .i64 kd,.int .i64 ky]),some (.cells [.int .i64 0,.bool false,.int .i64 0,.bool false,.int .i64 0]),some (.cells [.int .i64 0,.bool false,.int .i64 0,.bool false,.int .i64 (W (ff5 A t n me sh kd ky most x2))])]else(((0:Int)≤(ff11 A t n me sp sh kd ky most x2).6∧(ff11 A t n me sp sh kd ky most x2).6≤(18446744073709551615:Int))∧True)∧((lE' A∧(0:Int)≤(FNR.s (ff1 A t n me sh kd ky most x2)).1∧(FNR.s (ff1 A t n me sh kd ky most x2)).1≤(4611686018427387904:Int))∧True)∧bif a4 (ff14 A t n me sp sh kd ky most x2)then True∧bif bL kd then bif !ieq (ff11 A t n me sp sh kd ky most x2).9 0 then(0=0∧List.length x2.3+List.length (ff1 A t n me sh kd ky most x2).7=List.length (ff8 A t n me sh kd ky most x2)∧1=1∧List.length x2.3+List.length (ff1 A t n me sh kd ky most x2).7+(1:Nat)≤(4294967296:Nat))∧K (.agg [.int .i64 (ff11 A t n me sp sh kd ky most x2).2,.bool (ff11 A t n me sp sh kd ky most x2).3,.int .i64 (ff11 A t n me sp sh kd ky most x2).4,.bool false,.int .i64 (ff2 A t n me sh kd ky most x2)]) [some (.cells [.tslice 1 0 (List.length A) 5,.int .i64 (ff19 A t n me sp sh kd ky most x2).1,.bool (ff19 A t n me sp sh kd ky most x2).2,.bool (ff19 A t n me sp sh kd ky most x2).3]),some (.tab [some .i64,some .i64,some .u64,some .u64,none] A),some (.cells [.int .i64 me,.int .i64 0,.slice 4 0 (ff7 A t n me sh kd ky most x2) 1]),none,some (.ints (some .i64) (ff15 A t n me sp sh kd ky most x2))]else K (.agg [.int .i64 (ff11 A t n me sp sh kd ky most x2).2,.bool (ff11 A t n me sp sh kd ky most x2).3,.int .i64 (ff11 A t n me sp sh kd ky most x2).4,.bool false,.int .i64 (ff2 A t n me sh kd ky most x2)]) [some (.cells [.tslice 1 0 (List.length A) 5,.int .i64 (ff19 A t n me sp sh kd ky most x2).1,.bool (ff19 A t n me sp sh kd ky most x2).2,.bool (ff19 A t n me sp sh kd ky most x2).3]),some (.tab [some .i64,some .i64,some .u64,some .u64,none] A),some (.cells [.int .i64 me,.int .i64 0,.slice 4 0 (ff6 A t n me sh kd ky most x2) 1]),none,some (.ints (some .i64) (ff8 A t n me sh kd ky most x2))]else bif !ieq (ff11 A t n me sp sh kd ky most x2).9 0 then(0=0∧List.length x2.3+List.length (ff1 A t n me sh kd ky most x2).7=List.length (ff8 A t n me sh kd ky most x2)∧1=1∧List.length x2.3+List.length (ff1 A t n me sh kd ky most x2).7+(1:Nat)≤(4294967296:Nat))∧K (.agg [.int .i64 (ff11 A t n me sp sh kd ky most x2).2,.bool (ff11 A t n me sp sh kd ky most x2).3,.int .i64 (ff11 A t n me sp sh kd ky most x2).4,.bool false,.int .i64 (ff2 A t n me sh kd ky most x2)]) [some (.cells [.tslice 1 0 (List.length A) 5,.int .i64 (ff19 A t n me sp sh kd ky most x2).1,.bool (ff19 A t n me sp sh kd ky most x2).2,.bool (ff19 A t n me sp sh kd ky most x2).3]),some (.tab [some .i64,some .i64,some .u64,some .u64,none] A),some (.cells [.int .i64 me,.int .i64 sp,.slice 4 0 (ff7 A t n me sh kd ky most x2) 1]),none,some (.ints (some .i64) (ff15 A t n me sp sh kd ky most x2))]else K (.agg [.int .i64 (ff11 A t n me sp sh kd ky most x2).2,.bool (ff11 A t n me sp sh kd ky most x2).3,.int .i64 (ff11 A t n me sp sh kd ky most x2).4,.bool false,.int .i64 (ff2 A t n me sh kd ky most x2)]) [some (.cells [.tslice 1 0 (List.length A) 5,.int .i64 (ff19 A t n me sp sh kd ky most x2).1,.bool (ff19 A t n me sp sh kd ky most x2).2,.bool (ff19 A t n me sp sh kd ky most x2).3]),some (.tab [some .i64,some .i64,some .u64,some .u64,none] A),some (.cells [.int .i64 me,.int .i64 sp,.slice 4 0 (ff6 A t n me sh kd ky most x2) 1]),none,some (.ints (some .i64) (ff8 A t n me sh kd ky most x2))]else bif ilt most (W (ff5 A t n me sh kd ky most x2))then K (.agg [.int .i64 0,.bool false,.int .i64 0,.bool true,.int .i64 (W (ff5 A t n me sh kd ky most x2))]) [some (.cells [.tslice 1 0 (List.length A) 5,.int .i64 (ff19 A t n me sp sh kd ky most x2).1,.bool (ff19 A t n me sp sh kd ky most x2).2,.bool (ff19 A t n me sp sh kd ky most x2).3]),some (.tab [some .i64,some .i64,some .u64,some .u64,none] A),some (.cells [.int .i64 me,.int .i64 sp,.slice 4 0 (ff6 A t n me sh kd ky most x2) 1]),none,some (.ints (some .i64) (ff8 A t n me sh kd ky most x2))]else cP (yP A t n me sp sh kd ky most ok mu) (fun x_1=>Hint.ok (yP A t n me sp sh kd ky most ok mu) x_1∧mG (some b) (Hint.mu (yP A t n me sp sh kd ky most ok mu) x_1)) (OR sh kd ky most) [some (.cells [.tslice 1 0 (List.length A) 5,.int .i64 (ff19 A t n me sp sh kd ky most x2).1,.bool (ff19 A t n me sp sh kd ky most x2).2,.bool (ff19 A t n me sp sh kd ky most x2).3]),some (.tab [some .i64,some .i64,some .u64,some .u64,none] A),some (.cells [.int .i64 me,.int .i64 sp,.slice 4 0 (ff6 A t n me sh kd ky most x2) 1]),none,some (.ints (some .i64) (ff8 A t n me sh kd ky most x2)),some (.cells [.int .i64 t,.int .i64 n]),some (.cells [.int .i64 sh,.int .i64 kd,.int .i64 ky]),some (.cells [.int .i64 0,.bool false,.int .i64 0,.bool false,.int .i64 0]),some (.cells [.int .i64 0,.bool false,.int .i64 0,.bool false,.int .i64 (W (ff5 A t n me sh kd ky most x2))])]
def J7(A:List (List Int))(t n me sp sh kd ky most:Int)(R:List Int)(s:TS)(ok:FTX→Prop)(mu:FTX→Nat)(K:AVal→aB Ob→Prop):Prop:=True∧bif !bT sh kd ky then(lE' A∧okAW A∧(0:Int)≤s.1∧s.1≤(4000000000000000000:Int))∧ ∀(x:Int×TS),x=(a2 (tGot A s 1 0),aG A s 1 0)→K (.agg [.int .i64 0,.bool false,.int .i64 0,.bool true,.int .i64 0]) [some (.cells [.tslice 1 0 (List.length A) 5,.int .i64 x.2.1,.bool x.2.2,.bool x.2.3]),some (.tab [some .i64,some .i64,some .u64,some .u64,none] A),some (.cells [.int .i64 me,.int .i64 sp,.slice 3 0 (List.length R) 1]),some (.ints (some .i64) R)]else True∧bif bL kd then bif ieq sp 0 then(lE' A∧okAW A∧(0:Int)≤s.1∧s.1≤(4000000000000000000:Int))∧ ∀(x:Int×TS),x=(a2 (tGot A s 1 0),aG A s 1 0)→K (.agg [.int .i64 0,.bool false,.int .i64 0,.bool true,.int .i64 0]) [some (.cells [.tslice 1 0 (List.length A) 5,.int .i64 x.2.1,.bool x.2.2,.bool x.2.3]),some (.tab [some .i64,some .i64,some .u64,some .u64,none] A),some (.cells [.int .i64 me,.int .i64 sp,.slice 3 0 (List.length R) 1]),some (.ints (some .i64) R)]else bT sh kd ky=true∧cP (HFA A t n me sp sh kd ky most ok mu) (fun x=>Hint.ok (HFA A t n me sp sh kd ky most ok mu) x∧mG none (Hint.mu (HFA A t n me sp sh kd ky most ok mu) x)) ((.ptr 0 0):: .O ::(.ptr 2 0):: .O ::(.int .i64 most):: .O ::(.ptr 4 0):: .O ::(.ptr 5 0):: .O ::(.ptr 6 0)::(.ptr 7 0)::(.int .i64 (cR sh ky))::(.int .i64 (fA sh kd ky))::nH 153 ([])) [some (.cells [.tslice 1 0 (List.length A) 5,.int .i64 s.1,.bool s.2,.bool s.3]),some (.tab [some .i64,some .i64,some .u64,some .u64,none] A),some (.cells [.int .i64 me,.int .i64 sp,.slice 3 0 (List.length R) 1]),some (.ints (some .i64) R),some (.cells [.int .i64 t,.int .i64 n]),some (.cells [.int .i64 sh,.int .i64 kd,.int .i64 ky]),some (.cells [.int .i64 0,.bool false,.int .i64 0,.bool false,.int .i64 0]),some (.cells [.int .i64 0,.bool false,.int .i64 0,.bool false,.int .i64 0])]∧(∀(x2:FTX),ok x2→True∧bif !bif x2.1.2 then true else x2.1.3 then((lE' A∧x2.1.2=false∧x2.1.3=false∧(0:Int)≤x2.1.1∧jN t n A (Int.toNat (TS.i x2.1)) me (cR sh ky) (fA sh kd ky) (W (most - x2.2)))∧True)∧True∧bif bif (FNR.s (ff1 A t n me sh kd ky most x2)).2 then true else(FNR.s (ff1 A t n me sh kd ky most x2)).3 then K (.agg [.int .i64 0,.bool false,.int .i64 0,.bool false,.int .i64 x2.2]) [some (.cells [.tslice 1 0 (List.length A) 5,.int .i64 (FNR.s (ff1 A t n me sh kd ky most x2)).1,.bool (FNR.s (ff1 A t n me sh kd ky most x2)).2,.bool (FNR.s (ff1 A t n me sh kd ky most x2)).3]),some (.tab [some .i64,some .i64,some .u64,some .u64,none] A),some (.cells [.int .i64 me,.int .i64 sp,.slice 3 0 (List.length x2.3) 1]),some (.ints (some .i64) x2.3)]else zO A t n me sp sh kd ky most ok mu K x2 (Hint.mu (HFA A t n me sp sh kd ky most ok mu) x2)else K (.agg [.int .i64 0,.bool false,.int .i64 0,.bool false,.int .i64 x2.2]) [some (.cells [.tslice 1 0 (List.length A) 5,.int .i64 x2.1.1,.bool x2.1.2,.bool x2.1.3]),some (.tab [some .i64,some .i64,some .u64,some .u64,none] A),some (.cells [.int .i64 me,.int .i64 sp,.slice 3 0 (List.length x2.3) 1]),some (.ints (some .i64) x2.3)])∧(∀(x2:FTX),ok x2→True∧bif !bif x2.1.2 then true else x2.1.3 then((lE' A∧x2.1.2=false∧x2.1.3=false∧(0:Int)≤x2.1.1∧jN t n A (Int.toNat (TS.i x2.1)) me (cR sh ky) (fA sh kd ky) (W (most - x2.2)))∧True)∧True∧bif bif (FNR.s (ff1 A t n me sh kd ky most x2)).2 then true else(FNR.s (ff1 A t n me sh kd ky most x2)).3 then K (.agg [.int .i64 0,.bool false,.int .i64 0,.bool false,.int .i64 x2.2]) [some (.cells [.tslice 1 0 (List.length A) 5,.int .i64 (FNR.s (ff1 A t n me sh kd ky most x2)).1,.bool (FNR.s (ff1 A t n me sh kd ky most x2)).2,.bool (FNR.s (ff1 A t n me sh kd ky most x2)).3]),some (.tab [some .i64,some .i64,some .u64,some .u64,none] A),some (.cells [.int .i64 me,.int .i64 sp,.slice 4 0 (List.length x2.3) 1]),none,some (.ints (some .i64) x2.3)]else zO A t n me sp sh kd ky most ok mu K x2 (Hint.mu (yP A t n me sp sh kd ky most ok mu) x2)else K (.agg [.int .i64 0,.bool false,.int .i64 0,.bool false,.int .i64 x2.2]) [some (.cells [.tslice 1 0 (List.length A) 5,.int .i64 x2.1.1,.bool x2.1.2,.bool x2.1.3]),some (.tab [some .i64,some .i64,some .u64,some .u64,none] A),some (.cells [.int .i64 me,.int .i64 sp,.slice 4 0 (List.length x2.3) 1]),none,some (.ints (some .i64) x2.3)])∧True else bT sh kd ky=true∧cP (HFA A t n me sp sh kd ky most ok mu) (fun x=>Hint.ok (HFA A t n me sp sh kd ky most ok mu) x∧mG none (Hint.mu (HFA A t n me sp sh kd ky most ok mu) x)) ((.ptr 0 0):: .O ::(.ptr 2 0):: .O ::(.int .i64 most):: .O ::(.ptr 4 0):: .O ::(.ptr 5 0):: .O ::(.ptr 6 0)::(.ptr 7 0)::(.int .i64 (cR sh ky))::(.int .i64 (fA sh kd ky))::nH 153 ([])) [some (.cells [.tslice 1 0 (List.length A) 5,.int .i64 s.1,.bool s.2,.bool s.3]),some (.tab [some .i64,some .i64,some .u64,some .u64,none] A),some (.cells [.int .i64 me,.int .i64 sp,.slice 3 0 (List.length R) 1]),some (.ints (some .i64) R),some (.cells [.int .i64 t,.int .i64 n]),some (.cells [.int .i64 sh,.int .i64 kd,.int .i64 ky]),some (.cells [.int .i64 0,.bool false,.int .i64 0,.bool false,.int .i64 0]),some (.cells [.int .i64 0,.bool false,.int .i64 0,.bool false,.int .i64 0])]∧(∀(x2:FTX),ok x2→True∧bif !bif x2.1.2 then true else x2.1.3 then((lE' A∧x2.1.2=false∧x2.1.3=false∧(0:Int)≤x2.1.1∧jN t n A (Int.toNat (TS.i x2.1)) me (cR sh ky) (fA sh kd ky) (W (most - x2.2)))∧True)∧True∧bif bif (FNR.s (ff1 A t n me sh kd ky most x2)).2 then true else(FNR.s (ff1 A t n me sh kd ky most x2)).3 then K (.agg [.int .i64 0,.bool false,.int .i64 0,.bool false,.int .i64 x2.2]) [some (.cells [.tslice 1 0 (List.length A) 5,.int .i64 (FNR.s (ff1 A t n me sh kd ky most x2)).1,.bool (FNR.s (ff1 A t n me sh kd ky most x2)).2,.bool (FNR.s (ff1 A t n me sh kd ky most x2)).3]),some (.tab [some .i64,some .i64,some .u64,some .u64,none] A),some (.cells [.int .i64 me,.int .i64 sp,.slice 3 0 (List.length x2.3) 1]),some (.ints (some .i64) x2.3)]else zO A t n me sp sh kd ky most ok mu K x2 (Hint.mu (HFA A t n me sp sh kd ky most ok mu) x2)else K (.agg [.int .i64 0,.bool false,.int .i64 0,.bool false,.int .i64 x2.2]) [some (.cells [.tslice 1 0 (List.length A) 5,.int .i64 x2.1.1,.bool x2.1.2,.bool x2.1.3]),some (.tab [some .i64,some .i64,some .u64,some .u64,none] A),some (.cells [.int .i64 me,.int .i64 sp,.slice 3 0 (List.length x2.3) 1]),some (.ints (some .i64) x2.3)])∧(∀(x2:FTX),ok x2→True∧bif !bif x2.1.2 then true else x2.1.3 then((lE' A∧x2.1.2=false∧x2.1.3=false∧(0:Int)≤x2.1.1∧jN t n A (Int.toNat (TS.i x2.1)) me (cR sh ky) (fA sh kd ky) (W (most - x2.2)))∧True)∧True∧bif bif (FNR.s (ff1 A t n me sh kd ky most x2)).2 then true else(FNR.s (ff1 A t n me sh kd ky most x2)).3 then K (.agg [.int .i64 0,.bool false,.int .i64 0,.bool false,.int .i64 x2.2]) [some (.cells [.tslice 1 0 (List.length A) 5,.int .i64 (FNR.s (ff1 A t n me sh kd ky most x2)).1,.bool (FNR.s (ff1 A t n me sh kd ky most x2)).2,.bool (FNR.s (ff1 A t n me sh kd ky most x2)).3]),some (.tab [some .i64,some .i64,some .u64,some .u64,none] A),some (.cells [.int .i64 me,.int .i64 sp,.slice 4 0 (List.length x2.3) 1]),none,some (.ints (some .i64) x2.3)]else zO A t n me sp sh kd ky most ok mu K x2 (Hint.mu (yP A t n me sp sh kd ky most ok mu) x2)else K (.agg [.int .i64 0,.bool false,.int .i64 0,.bool false,.int .i64 x2.2]) [some (.cells [.tslice 1 0 (List.length A) 5,.int .i64 x2.1.1,.bool x2.1.2,.bool x2.1.3]),some (.tab [some .i64,some .i64,some .u64,some .u64,none] A),some (.cells [.int .i64 me,.int .i64 sp,.slice 4 0 (List.length x2.3) 1]),none,some (.ints (some .i64) x2.3)])∧True
theorem F4(A:List (List Int))(t n me sp sh kd ky most:Int)(R:List Int)(s:TS)(ok:FTX→Prop)(mu:FTX→Nat)(K:AVal→aB Ob→Prop)(hK:J7 A t n me sp sh kd ky most R s ok mu K):cT' 27 [.ptr 0 0,.agg [.int .i64 t,.int .i64 n],.ptr 2 0,.agg [.int .i64 sh,.int .i64 kd,.int .i64 ky],.int .i64 most] (TR A s me sp R) K:=by
 refine VV (aE (E:=EFG) Tryz.checked.mixed (L:=fun _ _=>some (.cases [HFA A t n me sp sh kd ky most ok mu,yP A t n me sp sh kd ky most ok mu])) (n:=10) (aR (by kernel_rfl) hK))
end Go.Sh
namespace Go.Sh
open Go Go.Proofs
variable [Con]
section
variable {t n:Int} {A:List (List Int)} {i:Nat} {x0:FTS×STS} {s s':TS} {P P' Q Q':FTS×STS→Prop}
theorem RelT.find{x:FTS}{st:STS}{me hd key lim:Int}{r:FNR}(h:RelT t n A i x0 s P (fun _=>False))(ho:ovf s=false)(h0:x.at'=0)(hm:tR x st)
 (h1: ∀z,P z→z=({x with at':=0,fn:=mE t n me hd key lim,cl:=a9,pr:=bU},st))
 (hA: ∀m:Nat,s=⟨(m:Int),false,false⟩→RelA t n A m (mE t n me hd key lim) r.s (fun _=>False) (oW r))
 (hg: ∀fn σ s' y,oW r y→fnF t n fn σ=⟨true,y,s'⟩→(ftZ t n ({x with at':=0,fn:=fn,cl:=a9,pr:=bU},st) σ).s =s'∧(((ftZ t n ({x with at':=0,fn:=fn,cl:=a9,pr:=bU},st) σ).d =false→P' (ftZ t n ({x with at':=0,fn:=fn,cl:=a9,pr:=bU},st) σ).p)∧((ftZ t n ({x with at':=0,fn:=fn,cl:=a9,pr:=bU},st) σ).d =true→Q' (ftZ t n ({x with at':=0,fn:=fn,cl:=a9,pr:=bU},st) σ).p)))
 (hs: ∀fn σ s' y,fnF t n fn σ=⟨true,y,s'⟩→(ftZ t n ({x with at':=0,fn:=fn,cl:=a9,pr:=bU},st) σ).s =s'):RelT t n A i x0 r.s P' Q':=by
 refine RelT.sub (y0:=mE t n me hd key lim) (emb:=fun y=>({x with at':=0,fn:=y,cl:=a9,pr:=bU},st)) (I:=fun _=>True) (R:=oW r) h ho h1 trivial (fun y σ _ hd=>⟨trivial,?_⟩) (fun y σ _ hd=>⟨?_,fun q=>?_⟩) hA
 ·have e:fnF t n y σ=⟨false,(fnF t n y σ).x,(fnF t n y σ).s⟩:=by rw [←hd]
  exact KW (x:= {x with at':=0,fn:=y,cl:=a9,pr:=bU}) rfl ⟨hm.r,hm.l⟩ e
 ·have e:fnF t n y σ=⟨true,(fnF t n y σ).x,(fnF t n y σ).s⟩:=by rw [←hd]
  exact hs y σ _ _ e
 ·have e:fnF t n y σ=⟨true,(fnF t n y σ).x,(fnF t n y σ).s⟩:=by rw [←hd]
  exact(hg y σ _ _ q e).2
def clZ(c:CLS):FNS:= {bV with tries:=0,limit:= -1,at':=4,cl:=c}
theorem RelT.clear{x:FTS}{st:STS}{a:Int}(h:RelT t n A i x0 s P (fun _=>False))(ho:ovf s=false)
 (h1: ∀z,P z→z=({x with at':=1,fn:=bV,cl:=clNF t n a,pr:=bU},st))
 (hf:ilt x.most (ftT1 x)=true→Q' (xJ x 1 (ftT1 x),st)) (hg:ilt x.most (ftT1 x)=false→P' (zW t n x st,st)):RelT t n A i x0 (pE A t n s a) P' Q':=by
 have hl: ∀c,ilt (clZ c).limit (fnT1 (clZ c))=true:=by intro c;show ilt (-1) (W (0+1))=true;decide
 have key: ∀(c:CLS) (σ:MS),(clF t n c σ).d =true→fnF t n (clZ c) σ=⟨true,u5 (clZ c) 0,(clF t n c σ).s⟩:=fun c σ hd=>rD (x:=clZ c) rfl hd (hl c)
 have key0: ∀(c:CLS) (σ:MS),(clF t n c σ).d =false→fnF t n (clZ c) σ=⟨false,clZ (clF t n c σ).x,(clF t n c σ).s⟩:=fun c σ hd=>rE (x:=clZ c) rfl hd
 refine RelT.sub (y0:=clZ (clNF t n a)) (emb:=fun y=>({x with at':=1,fn:=bV,cl:=y.cl,pr:=bU},st)) (I:=fun y=>y=clZ y.cl) (R:=fun _=>True) h ho h1 rfl (fun y σ hI hd=>?_) (fun y σ hI hd=>?_) (fun m em=>?_)
 ·have hI:y=clZ y.cl:=hI
  generalize y.cl=c at hI
  subst hI
  cases q:(clF t n c σ).d with
  | true=>rw [key c σ q]at hd;cases hd
  | false=>
    rw [key0 c σ q]
    refine⟨rfl,?_⟩
    have e:clF t n c σ=⟨false,(clF t n c σ).x,(clF t n c σ).s⟩:=by rw [←q]
    exact GW (x:= {x with at':=1,fn:=bV,cl:=c,pr:=bU}) rfl e
 ·have hI:y=clZ y.cl:=hI
  generalize y.cl=c at hI
  subst hI
  cases q:(clF t n c σ).d with
  | false=>rw [key0 c σ q]at hd;cases hd
  | true=>
    rw [key c σ q]
    have e:clF t n c σ=⟨true,(clF t n c σ).x,(clF t n c σ).s⟩:=by rw [←q]
    cases hlm:ilt x.most (ftT1 x)with
    | true=>
      have e2:=GV (x:= {x with at':=1,fn:=bV,cl:=c,pr:=bU}) (st:=st) rfl e hlm
      have e3:ftZ t n ({x with at':=1,fn:=bV,cl:=c,pr:=bU},st) σ=_:=e2
      show(ftZ t n ({x with at':=1,fn:=bV,cl:=c,pr:=bU},st) σ).s =_∧(_→(((ftZ t n ({x with at':=1,fn:=bV,cl:=c,pr:=bU},st) σ).d =false→_)∧((ftZ t n ({x with at':=1,fn:=bV,cl:=c,pr:=bU},st) σ).d =true→_)))
      rw [e3]
      exact⟨rfl,fun _=>⟨fun w=>(by cases w),fun _=>hf hlm⟩⟩
    | false=>
      have e2:=GU (x:= {x with at':=1,fn:=bV,cl:=c,pr:=bU}) (st:=st) rfl e hlm
      have e3:ftZ t n ({x with at':=1,fn:=bV,cl:=c,pr:=bU},st) σ=_:=e2
      show(ftZ t n ({x with at':=1,fn:=bV,cl:=c,pr:=bU},st) σ).s =_∧(_→(((ftZ t n ({x with at':=1,fn:=bV,cl:=c,pr:=bU},st) σ).d =false→_)∧((ftZ t n ({x with at':=1,fn:=bV,cl:=c,pr:=bU},st) σ).d =true→_)))
      rw [e3]
      exact⟨rfl,fun _=>⟨fun _=>hg hlm,fun w=>(by cases w)⟩⟩
 ·have st0:RelA t n A m (clZ (clNF t n a)) s (clAt (clZ (clNF t n a)) (clNF t n a)) (fun _=>False):=by
   rw [em]
   intro X S e tr h0
   exact .inr (.inl ⟨m,Nat.le_refl _,tr.le,rfl,h0⟩)
  refine(RelA.clear st0).mono (fun y p=>?_) (fun y q=>trivial)
  have:=p.1
  rw [hl]at this;cases this
end
end Go.Sh
namespace Go.Sh
open Go Go.Proofs
variable [Con]
def zS(c:Int):FNS:= {bV with curr:=c}
theorem PB{t n:Int}{x:FTS}{T:Int}{y:FNS}{p:PLN}{c:Int}(h:y.curr=c):ftGo t n x T y p=ftGo t n x T (zS c) p:=by
 unfold ftGo
 rw [h];rfl
section
variable {t n:Int} {A:List (List Int)} {i:Nat} {x0:FTS×STS} {s s':TS} {P P' Q Q':FTS×STS→Prop}
theorem RelT.sought{x:FTS}{st:STS}{me hd key lim T:Int}{r:FNR}{p:PLN}(h:RelT t n A i x0 s P (fun _=>False))(ho:ovf s=false)(h0:x.at'=0)(hm:tR x st)
 (h1: ∀z,P z→z=({x with at':=0,fn:=mE t n me hd key lim,cl:=a9,pr:=bU},st))
 (hA: ∀m:Nat,s=⟨(m:Int),false,false⟩→RelA t n A m (mE t n me hd key lim) r.s (fun _=>False) (oW r))
 (hT:W (x.tries+r.tries)=T) (hp:aO x.sh x.kd x.ky r.pred r.pw r.curr r.cw st.sp=p)
 (hfl:ilt x.most T=true→Q' (xJ x 0 T,uF st r.R))
 (hgo:ilt x.most T=false→((ftGo t n x T (zS r.curr) p).1=false→P' ((ftGo t n x T (zS r.curr) p).2,uF st r.R))∧((ftGo t n x T (zS r.curr) p).1=true→Q' ((ftGo t n x T (zS r.curr) p).2,uF st r.R))):
 RelT t n A i x0 r.s P' Q':=by
 have hmay: ∀fn:FNS,tR {x with at':=0,fn:=fn,cl:=a9,pr:=bU} st:=fun fn=>⟨hm.r,hm.l⟩
 refine RelT.find h ho h0 hm h1 hA (fun fn σ s' y hy e=>?_) (fun fn σ s' y e=>?_)
 ·have e5:W (x.tries+y.tries)=T:=by rw [hy.tries];exact hT
  have e6:aO x.sh x.kd x.ky y.pred y.pw y.curr y.cw st.sp=p:=by rw [hy.pred,hy.pw,hy.curr,hy.cw];exact hp
  cases hl:ilt x.most T with
  | true=>
    have q:=xL (x:= {x with at':=0,fn:=fn,cl:=a9,pr:=bU}) (st:=st) (s:=σ) rfl (hmay fn) e e5 hl
    have q:ftZ t n ({x with at':=0,fn:=fn,cl:=a9,pr:=bU},st) σ=_:=q
    rw [q,hy.R]
    exact⟨rfl,fun w=>(by cases w),fun _=>hfl hl⟩
  | false=>
    have q:=NG (x:= {x with at':=0,fn:=fn,cl:=a9,pr:=bU}) (st:=st) (s:=σ) rfl (hmay fn) e e5 hl e6
    have q:ftZ t n ({x with at':=0,fn:=fn,cl:=a9,pr:=bU},st) σ=_:=q
    rw [q,hy.R,PB hy.curr]
    have g:ftGo t n {x with at':=0,fn:=fn,cl:=a9,pr:=bU} T (zS r.curr) p=ftGo t n x T (zS r.curr) p:=rfl
    rw [g]
    exact⟨rfl,hgo hl⟩
 ·cases hl:ilt x.most (W (x.tries+y.tries))with
  | true=>
    have q:=xL (x:= {x with at':=0,fn:=fn,cl:=a9,pr:=bU}) (st:=st) (s:=σ) rfl (hmay fn) e rfl hl
    have q:ftZ t n ({x with at':=0,fn:=fn,cl:=a9,pr:=bU},st) σ=_:=q
    rw [q]
  | false=>
    have q:=NG (x:= {x with at':=0,fn:=fn,cl:=a9,pr:=bU}) (st:=st) (s:=σ) rfl (hmay fn) e rfl hl rfl
    have q:ftZ t n ({x with at':=0,fn:=fn,cl:=a9,pr:=bU},st) σ=_:=q
    rw [q]
theorem SR{t n:Int}{x:PRS}{st:STS}{s:MS}(h:x.loaded=true):prF t n x st s=⟨true,x,st,s.stored st.sp (prWd x.key x.nxt x.found)⟩:=by
 unfold prF LS AO
 have h':x.4=true:=h
 simp only [Tr.val,h',Bool.not_true,cond_false]
 simp only [←h']
 rfl
theorem RelT.prep{x:FTS}{st:STS}{nx:Int}(h:RelT t n A i x0 s P (fun _=>False))(h0:x.at'=2)
 (h1: ∀z,P z→z=({x with fn:=bV,cl:=a9,pr:=⟨x.ky,nx,0,false⟩ },st))
 (hg:P' ({x with at':=3,fn:=bV,cl:=a9,pr:=bU},st)):RelT t n A i x0 (vU A s st.sp x.ky nx) P' (fun _=>False):=by
 unfold vU
 have e1: ∀σ:MS,ftZ t n ({x with fn:=bV,cl:=a9,pr:=⟨x.ky,nx,0,false⟩ },st) σ=⟨false,{x with at':=2,fn:=bV,cl:=a9,pr:=⟨x.ky,nx,aD σ.xs st.sp,true⟩ },st,σ.loadd st.sp⟩:=fun σ=>
  KX (x:= {x with fn:=bV,cl:=a9,pr:=⟨x.ky,nx,0,false⟩ }) h0 (BZ (x:=⟨x.ky,nx,0,false⟩) rfl)
 have h2:RelT t n A i x0 (aG A s 1 st.sp) (fun z=>z=({x with at':=2,fn:=bV,cl:=a9,pr:=⟨x.ky,nx,a2 (tGot A s 1 st.sp),true⟩ },st)) (fun _=>False):=by
  refine h.load (fun y σ p=>?_) (fun y σ p hv=>?_)
  ·rw [h1 _ p,e1]
  ·rw [h1 _ p,e1,hv]
   exact⟨fun _=>rfl,fun w=>by cases w⟩
 have e2: ∀σ:MS,ftZ t n ({x with at':=2,fn:=bV,cl:=a9,pr:=⟨x.ky,nx,a2 (tGot A s 1 st.sp),true⟩ },st) σ=⟨false,{x with at':=3,fn:=bV,cl:=a9,pr:=bU},st,σ.stored st.sp (prWd x.ky nx (a2 (tGot A s 1 st.sp)))⟩:=fun σ=>
  GY (x:= {x with at':=2,fn:=bV,cl:=a9,pr:=⟨x.ky,nx,a2 (tGot A s 1 st.sp),true⟩ }) rfl (SR (x:=⟨x.ky,nx,a2 (tGot A s 1 st.sp),true⟩) rfl)
 refine h2.stor (fun y σ p=>?_) (fun y σ p=>?_)
 ·rw [p,e2]
 ·rw [p,e2]
  exact⟨fun _=>hg,fun w=>by cases w⟩
theorem XR{x:FTS}{st:STS}{w:Int}(h:RelT t n A i x0 s P (fun _=>False))(h0:x.at'=3)(h1: ∀z,P z→z=(x,st))
 (hw:bA x.p.now x.p.code x.p.okk x.p.val x.p.addr x.p.old x.p.nxt x.p.mark x.p.pops=w)
 (hy:a4 (tGot A s 3 x.p.addr)=true→Q' ({x with code:=x.p.code,okk:=x.p.okk,val:=x.p.val,at':=3,fn:=bV,cl:=a9,pr:=bU},⟨st.me,bif bL x.kd then 0 else st.sp,bif ieq x.p.pops 0 then st.R else st.R++ [x.p.pops]⟩))
 (hf:a4 (tGot A s 3 x.p.addr)=false→ilt x.most (ftT1 x)=true→Q' (xJ x 3 (ftT1 x),st))
 (hg:a4 (tGot A s 3 x.p.addr)=false→ilt x.most (ftT1 x)=false→P' (zW t n x st,st)):RelT t n A i x0 (tCas A s x.p.addr x.p.old w) P' Q':=by
 have e1: ∀σ:MS,aV σ.xs x.p.addr x.p.old=true→ftZ t n (x,st) σ=_:=fun σ hc=>C9 (t:=t) (n:=n) (st:=st) h0 hc hw
 have e2: ∀σ:MS,aV σ.xs x.p.addr x.p.old=false→ilt x.most (ftT1 x)=true→ftZ t n (x,st) σ=_:=fun σ hc hl=>GP (t:=t) (n:=n) (st:=st) h0 hc hw hl
 have e3: ∀σ:MS,aV σ.xs x.p.addr x.p.old=false→ilt x.most (ftT1 x)=false→ftZ t n (x,st) σ=_:=fun σ hc hl=>GO (t:=t) (n:=n) (st:=st) h0 hc hw hl
 refine h.cas (fun y σ p=>?_) (fun y σ p hv=>?_)
 ·rw [h1 _ p]
  cases hc:aV σ.xs x.p.addr x.p.old with
  | true=>rw [e1 σ hc]
  | false=>
    cases hl:ilt x.most (ftT1 x)with
    | true=>rw [e2 σ hc hl]
    | false=>rw [e3 σ hc hl]
 ·rw [h1 _ p]
  cases hc:aV σ.xs x.p.addr x.p.old with
  | true=>
    rw [hc]at hv
    rw [e1 σ hc]
    exact⟨fun q=>(by cases q),fun _=>hy hv.symm⟩
  | false=>
    rw [hc]at hv
    cases hl:ilt x.most (ftT1 x)with
    | true=>
      rw [e2 σ hc hl]
      exact⟨fun q=>(by cases q),fun _=>hf hv.symm hl⟩
    | false=>
      rw [e3 σ hc hl]
      exact⟨fun _=>hg hv.symm hl,fun q=>(by cases q)⟩
end
end Go.Sh
namespace Go.Sh
open Go Go.Proofs
variable [Con]
theorem RelT.ex{ι:Type}{t n:Int}{A:List (List Int)}{i:Nat}{x0:FTS×STS}{s s':TS}{P:ι→FTS×STS→Prop}{P' Q':FTS×STS→Prop}(h:RelT t n A i x0 s (fun z=> ∃p,P p z) (fun _=>False))(ho:ovf s=false)
 (k: ∀p (m:Nat) (y0:FTS×STS),s=⟨(m:Int),false,false⟩→RelT t n A m y0 s (P p) (fun _=>False)→RelT t n A m y0 s' P' Q'):RelT t n A i x0 s' P' Q':=by
 intro X S e tr h0
 rcases h X S e tr h0 with⟨_,es⟩ | ⟨m,l1,l2,es,p,hp⟩ | ⟨_,_,q⟩
 ·rw [es]at ho;cases ho
 ·have st:RelT t n A m (X m) s (P p) (fun _=>False):=by
   rw [es]
   exact RelT.start.mono (fun y q=>by rw [q];exact hp) (fun _ q=>q)
  have tr':FtTr t n A X S m e:=⟨l2,tr.he,fun j a b=>tr.st j (by omega) b,tr.fin⟩
  rcases k p m (X m) es st X S e tr' rfl with c | ⟨j,a,b,c,d⟩ | c
  ·exact .inl c
  ·exact .inr (.inl ⟨j,by omega,b,c,d⟩)
  ·exact .inr (.inr c)
 ·exact q.elim
structure FFR where
 s:TS
 code:Int
 okk:Bool
 val:Int
 failed:Bool
 tries:Int
 sp:Int
 R:List Int
 ap:Bool
structure vA (me:Int) (r:FFR) (z:FTS×STS):Prop where
 code:z.1.code=r.code
 okk:z.1.okk=r.okk
 val:z.1.val=r.val
 failed:z.1.failed=r.failed
 tries:z.1.tries=r.tries
 st:z.2=⟨me,r.sp,r.R⟩
structure fS (t n:Int) (A:List (List Int)) (i:Nat) (x0:FTS×STS) (me:Int) (l0:Nat) (r:FFR):Prop where
 rel:RelT t n A i x0 r.s (fun _=>False) (vA me r)
 hR:(r.R.length:Int)≤l0+2*A.length
def F1(A:List (List Int))(me:Int)(r:FFR):aB Ob:=cN A r.s++ [some (.cells [.int .i64 me,.int .i64 r.sp,.slice 3 0 r.R.length 1]),some (.ints (some .i64) r.R)]
def J6(A:List (List Int))(me:Int)(r:FFR):aB Ob:=cN A r.s++ [some (.cells [.int .i64 me,.int .i64 r.sp,.slice 4 0 r.R.length 1]),none,some (.ints (some .i64) r.R)]
def MU(r:FFR):AVal:=.agg [.int .i64 r.code,.bool r.okk,.int .i64 r.val,.bool r.failed,.int .i64 r.tries]
def ft0(t n me sh kd ky most tries:Int)(p:PLN):FTS:=⟨0,false,0,false,tries,sh,kd,ky,most,0,p,mE t n me (cR sh ky) (fA sh kd ky) (W (most - tries)),a9,bU⟩
structure okFT (t n:Int) (A:List (List Int)) (i:Nat) (x0:FTS×STS) (l0:Nat) (me sp sh kd ky most:Int) (x:FTX):Prop where
 lo:(i:Int)≤x.s.i
 hi:x.s.i≤A.length
 tr:0≤x.tries∧x.tries≤most
 hR:(x.R.length:Int)≤l0+2*(x.s.i - i)
 rel:RelT t n A i x0 x.s (fun z=> ∃p,z=(ft0 t n me sh kd ky most x.tries p,(⟨me,sp,x.R⟩:STS))) (fun _=>False)
def oB(A:List (List Int))(x:FTX):Nat:=2*(A.length - x.s.i.toNat)+(bif ovf x.s then 0 else 1)
theorem PX{A:List (List Int)}{x x':FTX}{k:Int}(h0:0≤x.s.i)(h:Adv A k x.s x'.s)(hk:1≤k)(hx:x.s.i≤A.length)(ho:ovf x.s=false):oB A x'<oB A x:=by
 unfold oB
 have h1:=h.hi hx
 have h2:=h.lo
 rw [ho]
 cases e:ovf x'.s with
 | true=>simp only [cond_true,cond_false];omega
 | false=>
   have:=(h.on e).2
   simp only [cond_false];omega
structure BQ (t n:Int) (A:List (List Int)) (i:Nat) (me sp sh kd ky most:Int) (l0:Nat):Prop where
 hA:okAW A
 len:A.length≤100000
 hi:i≤A.length
 ht:0≤t∧t≤100000
 hn:0≤n∧n≤1000
 hm:0≤me∧me≤1000
 hl:0≤most∧most≤1000
 h0:l0≤1000000
 r:bT sh kd ky=true
 l:bL kd=true→sp≠0
theorem DC{sh ky:Int} : -1000≤cR sh ky∧cR sh ky≤1000:=by
 unfold cR
 cases ieq sh 2
 ·show(-1000:Int)≤0∧(0:Int)≤1000;decide
 ·show -1000≤ky%4∧ky%4≤1000;omega
theorem DN{sh kd ky pred pw curr cw sp:Int}(h1:0≤pw∧pw≤18446744073709551615)(h2:0≤cw∧cw≤18446744073709551615):0≤(aO sh kd ky pred pw curr cw sp).old ∧(aO sh kd ky pred pw curr cw sp).old ≤18446744073709551615:=by
 have z0:(0:Int)≤0∧(0:Int)≤18446744073709551615:=by decide
 have h:(oE sh kd ky pred pw curr cw sp).run (fun p=>0≤p.old∧p.old≤18446744073709551615):=by
  unfold oE
  repeat' (with_reducible first | exact trivial | refine V6 ?_ ?_ | refine Tr.run_ite (fun _=>?_) (fun _=>?_) | refine V7 ?_)
  all_goals first | exact h1 | exact h2 | exact z0
 exact WH h
theorem AM(p:PLN)(h:p.now=false):fG p.now p.code p.okk p.val p.addr p.old p.nxt p.mark p.pops= !ieq (aA p.old 20 5) 0:=by
 rw [h];rfl
section
variable {t n:Int} {A:List (List Int)} {i:Nat} {x0:FTS×STS} {l0:Nat} {me sp sh kd ky most:Int}
noncomputable abbrev fr(A:List (List Int))(t n me sh kd ky most:Int)(x:FTX):FNR:=fndF A t n x.s me (cR sh ky) (fA sh kd ky) (W (most - x.tries))
noncomputable abbrev fp(A:List (List Int))(t n me sp sh kd ky most:Int)(x:FTX):PLN:=aO sh kd ky (fr A t n me sh kd ky most x).pred (fr A t n me sh kd ky most x).pw (fr A t n me sh kd ky most x).curr (fr A t n me sh kd ky most x).cw sp
theorem okFT.fig(F:BQ t n A i me sp sh kd ky most l0){x:FTX}(hx:okFT t n A i x0 l0 me sp sh kd ky most x):W (most - x.tries)=most - x.tries∧jN t n A x.s.i.toNat me (cR sh ky) (fA sh kd ky) (W (most - x.tries)):=by
 have f1:=F.len
 have f2:=F.hl
 have x3:=hx.tr
 have x1:=hx.lo
 have x2:=hx.hi
 have e:W (most - x.tries)=most - x.tries:=cO (by omega)
 refine⟨e,?_⟩
 rw [e]
 exact⟨F.hA,by omega,by omega,F.ht,F.hn,F.hm,DC,by omega⟩
theorem XS(F:BQ t n A i me sp sh kd ky most l0){x:FTX}(hx:okFT t n A i x0 l0 me sp sh kd ky most x)(ho:ovf x.s=false){P' Q':FTS×STS→Prop}{T:Int}(hT:W (x.tries+(fr A t n me sh kd ky most x).tries)=T)
 (hfl:ilt most T=true→ ∀p,Q' (xJ (ft0 t n me sh kd ky most x.tries p) 0 T,⟨me,sp,x.R++(fr A t n me sh kd ky most x).R⟩))
 (hgo:ilt most T=false→ ∀p,((ftGo t n (ft0 t n me sh kd ky most x.tries p) T (zS (fr A t n me sh kd ky most x).curr) (fp A t n me sp sh kd ky most x)).1=false→P' ((ftGo t n (ft0 t n me sh kd ky most x.tries p) T (zS (fr A t n me sh kd ky most x).curr) (fp A t n me sp sh kd ky most x)).2,⟨me,sp,x.R++(fr A t n me sh kd ky most x).R⟩))∧((ftGo t n (ft0 t n me sh kd ky most x.tries p) T (zS (fr A t n me sh kd ky most x).curr) (fp A t n me sp sh kd ky most x)).1=true→Q' ((ftGo t n (ft0 t n me sh kd ky most x.tries p) T (zS (fr A t n me sh kd ky most x).curr) (fp A t n me sp sh kd ky most x)).2,⟨me,sp,x.R++(fr A t n me sh kd ky most x).R⟩))):
 RelT t n A i x0 (fr A t n me sh kd ky most x).s P' Q':=by
 have fg:=(hx.fig F).2
 have po:=xH (s:=x.s) fg
 refine RelT.ex hx.rel ho (fun p m y0 em h=>?_)
 refine RelT.sought (x:=ft0 t n me sh kd ky most x.tries p) (st:=⟨me,sp,x.R⟩) (r:=fr A t n me sh kd ky most x) h ho rfl ⟨F.r,F.l⟩ (fun z q=>q) (fun m' em'=>?_) hT rfl (fun q=>hfl q p) (fun q=>hgo q p)
 have e1:x.s.i.toNat=m':=by rw [em'];rfl
 rw [←e1]
 exact po.rel
end
end Go.Sh
namespace Go.Sh
open Go Go.Proofs
variable [Con]
section
variable {t n:Int} {A:List (List Int)} {i:Nat} {x0:FTS×STS} {l0:Nat} {me sp sh kd ky most:Int}
def ftPl(sh kd ky most T:Int)(p:PLN)(a:Int)(cl:CLS)(pr:PRS):FTS:=⟨0,false,0,false,T,sh,kd,ky,most,a,p,bV,cl,pr⟩
theorem F2{l m:List Int} :l++List.take m.length (List.drop 0 m)=l++m:=by simp
theorem RM{K:AVal→aB Ob→Prop}(F:BQ t n A i me sp sh kd ky most l0){x:FTX}(hx:okFT t n A i x0 l0 me sp sh kd ky most x)(ho:ovf x.s=false){b:Nat}(hb:b=oB A x)
 (hor:ovf (fr A t n me sh kd ky most x).s =false)
 (hK: ∀r,fS t n A i x0 me l0 r→r.ap=true→K (MU r) (J6 A me r)):
 zO A t n me sp sh kd ky most (okFT t n A i x0 l0 me sp sh kd ky most) (oB A) K x b:=by
 obtain⟨eW,fg⟩:=hx.fig F
 have po:=xH (s:=x.s) fg
 have f1:=F.len
 have f2:=F.hl
 have f3:=F.h0
 have f4:=F.ht
 have f5:=F.hn
 have x1:=hx.lo
 have x2:=hx.hi
 have x3:=hx.tr
 have x4:=hx.hR
 have ei:((x.s.i.toNat:Nat):Int)=x.s.i:=by omega
 generalize hr:fr A t n me sh kd ky most x=r at*
 have hr':ff1 A t n me sh kd ky most x=r:=hr
 have hr2:fndF A t n x.s me (cR sh ky) (fA sh kd ky) (W (most - x.tries))=r:=hr
 rw [hr2]at po
 have p1:=po.lo
 have p2:=po.hi
 have p3:=po.on hor
 have p4:=po.tr
 have p5:=po.hR
 have p6:=po.hab
 rw [eW]at p4 p6
 have A1:Adv A 1 x.s r.s:=⟨by omega,fun _=>p2,fun q=>⟨ho,by omega⟩⟩
 have wT:W (x.tries+r.tries)=x.tries+r.tries:=cO (by omega)
 have wT1:W (x.tries+r.tries+1)=x.tries+r.tries+1:=cO (by omega)
 have so: ∀ {P' Q':FTS×STS→Prop},(ilt most (x.tries+r.tries)=true→ ∀p,Q' (xJ (ft0 t n me sh kd ky most x.tries p) 0 (x.tries+r.tries),⟨me,sp,x.R++r.R⟩))→
  (ilt most (x.tries+r.tries)=false→ ∀p,((ftGo t n (ft0 t n me sh kd ky most x.tries p) (x.tries+r.tries) (zS r.curr) (aO sh kd ky r.pred r.pw r.curr r.cw sp)).1=false→P' ((ftGo t n (ft0 t n me sh kd ky most x.tries p) (x.tries+r.tries) (zS r.curr) (aO sh kd ky r.pred r.pw r.curr r.cw sp)).2,⟨me,sp,x.R++r.R⟩))∧((ftGo t n (ft0 t n me sh kd ky most x.tries p) (x.tries+r.tries) (zS r.curr) (aO sh kd ky r.pred r.pw r.curr r.cw sp)).1=true→Q' ((ftGo t n (ft0 t n me sh kd ky most x.tries p) (x.tries+r.tries) (zS r.curr) (aO sh kd ky r.pred r.pw r.curr r.cw sp)).2,⟨me,sp,x.R++r.R⟩)))→RelT t n A i x0 r.s P' Q':=by
  intro P' Q' h1 h2
  have q:=XS (P':=P') (Q':=Q') F hx ho (T:=x.tries+r.tries) (by rw [hr];exact wT)
  unfold fp at q
  rw [hr]at q
  exact q h1 h2
 have hold:=DN (sh:=sh) (kd:=kd) (ky:=ky) (pred:=r.pred) (curr:=r.curr) (sp:=sp) po.hpw po.hcw
 have eP:ff11 A t n me sp sh kd ky most x=aO sh kd ky r.pred r.pw r.curr r.cw sp:=by unfold ff11;rw [hr']
 generalize hp:aO sh kd ky r.pred r.pw r.curr r.cw sp=p at*
 have e4:ff4 A t n me sh kd ky most x=r.R.length:=by unfold ff4;rw [hr']
 have e3:ff3 A t n me sh kd ky most x=List.drop 0 r.R:=by unfold ff3;rw [hr']
 have e8:ff8 A t n me sh kd ky most x=x.R++r.R:=by unfold ff8;rw [e4,e3];exact F2
 have e6:ff6 A t n me sh kd ky most x=(x.R++r.R).length :=by unfold ff6;rw [hr',List.length_append]
 have e9:ff9 A t n me sh kd ky most x=(x.R++r.R).length :=by unfold ff9;rw [e8]
 have e15:ff15 A t n me sp sh kd ky most x=x.R++r.R++ [p.pops]:=by unfold ff15;rw [e4,e3,eP,F2]
 have e7:ff7 A t n me sh kd ky most x=(x.R++r.R++ [p.pops]).length :=by unfold ff7;rw [hr',List.length_append,List.length_append];rfl
 have e10:ff10 A t n me sh kd ky most x=(x.R++r.R++ [p.pops]).length :=by unfold ff10;rw [e8];simp only [List.length_append,List.length_singleton]
 have e2:ff2 A t n me sh kd ky most x=x.tries+r.tries:=by unfold ff2;rw [hr'];exact wT
 have e5:ff5 A t n me sh kd ky most x=x.tries+r.tries+1:=by unfold ff5;rw [hr'];show W (x.tries+r.tries)+1=_;rw [wT]
 have hw:ff17 A t n me sp sh kd ky most x=bA p.now p.code p.okk p.val p.addr p.old p.nxt p.mark p.pops:=by unfold ff17;rw [eP]
 have e12:ff12 A t n me sp sh kd ky most x=aA p.old 20 5:=by unfold ff12;rw [eP]
 have e13: ∀y,OQ A t n me sp sh kd ky most x y=tGot A y 3 p.addr:=by intro y;unfold OQ;rw [eP]
 have e14:ff14 A t n me sp sh kd ky most x=tGot A r.s 3 p.addr:=by unfold ff14;rw [eP,hr']
 have e18: ∀y,jM A t n me sp sh kd ky most x y=tCas A y p.addr p.old (bA p.now p.code p.okk p.val p.addr p.old p.nxt p.mark p.pops):=by intro y;unfold jM;rw [eP,hw]
 have e19:ff19 A t n me sp sh kd ky most x=tCas A r.s p.addr p.old (bA p.now p.code p.okk p.val p.addr p.old p.nxt p.mark p.pops):=by unfold ff19;rw [eP,hr',hw]
 have hlen:((x.R++r.R).length :Int)≤l0+2*A.length:=by rw [List.length_append];omega
 have hlen':((x.R++r.R).length :Int)≤l0+2*(r.s.i - i):=by rw [List.length_append];omega
 unfold zO
 simp only [hr',eP,e2,e4,e5,e6,e7,e8,e9,e10,e12,e13,e14,e15,e18,e19,wT1]
 have hadd:(x.R.length:Int)+r.R.length=((x.R++r.R).length :Nat):=by rw [List.length_append];rfl
 have hlen1:((x.R++r.R++ [p.pops]).length :Int)≤l0+2*A.length:=by rw [List.length_append];show(((x.R++r.R).length +1:Nat):Int)≤_;omega
 refine⟨⟨by omega,trivial,trivial,trivial,by omega⟩,aF (fun e=>?_) (fun e=>⟨⟨⟨po.hpw,po.hcw⟩,trivial⟩,?_⟩)⟩
 ·rw [p6,aX,dT']at e
  refine hK ⟨r.s,0,false,0,true,x.tries+r.tries,sp,x.R++r.R,true⟩ ⟨so (fun _ q=>⟨rfl,rfl,rfl,rfl,rfl,rfl⟩) (fun c q=>?_),hlen⟩ rfl
  rw [aX,dF']at c
  omega
 have hT:x.tries+r.tries≤most:=by
  rw [p6,aX,dF']at e;omega
 have hTf:ilt most (x.tries+r.tries)=false:=by rw [aX];exact decide_eq_false (by omega)
 have leafN: ∀s',Adv A 0 r.s s'→ilt most (x.tries+r.tries+1)=false→RelT t n A i x0 s' (fun z=> ∃q,z=(ft0 t n me sh kd ky most (x.tries+r.tries+1) q,(⟨me,sp,x.R++r.R⟩:STS))) (fun _=>False)→okFT t n A i x0 l0 me sp sh kd ky most ⟨s',x.tries+r.tries+1,x.R++r.R⟩∧mG (some b) (oB A ⟨s',x.tries+r.tries+1,x.R++r.R⟩):=by
  intro s' adr l rel
  rw [aX,dF']at l
  have ad:Adv A 1 x.s s':=A1.trans adr
  have a0:=adr.lo
  have a1:=ad.lo
  have a2:=ad.hi x2
  refine⟨⟨by show(i:Int)≤s'.i;omega,a2,by show 0≤x.tries+r.tries+1∧x.tries+r.tries+1≤most;omega,?_,rel⟩,?_⟩
  ·show((x.R++r.R).length :Int)≤l0+2*(s'.i - i)
   omega
  ·rw [hb]
   exact PX (by omega) ad (by decide) x2 ho
 refine aF (fun pn=>?_) (fun pn=>⟨hold,aF (fun pc=>⟨⟨trivial,F.hA,f4,by omega,⟨by omega,by omega⟩,(kJ hor).1,(kJ hor).2⟩,fun x_1 e1=>?_⟩) (fun pc=>⟨trivial,aF (fun lk=>⟨⟨trivial,(List.length_append).symm,F.hA,by omega,by omega⟩,fun x_1 e1=>⟨⟨hold,trivial⟩,⟨⟨trivial,?_,?_⟩,trivial⟩,?_⟩⟩) (fun lk=>⟨⟨hold,trivial⟩,⟨⟨trivial,by omega,by omega⟩,trivial⟩,?_⟩)⟩)⟩)
 ·refine hK ⟨r.s,p.code,p.okk,p.val,false,x.tries+r.tries,sp,x.R++r.R,true⟩ ⟨so (fun c=>by rw [hTf]at c;cases c) (fun _ q=>?_),hlen⟩ rfl
  unfold ftGo
  rw [pn]
  exact⟨fun w=>(by cases w),fun _=>⟨rfl,rfl,rfl,rfl,rfl,rfl⟩⟩
 ·
  have hpc:fG p.now p.code p.okk p.val p.addr p.old p.nxt p.mark p.pops=true:=by rw [AM p pn];exact pc
  have Rc:RelT t n A i x0 r.s (fun z=>z=(ftPl sh kd ky most (x.tries+r.tries) p 1 (clNF t n p.addr) bU,⟨me,sp,x.R++r.R⟩)) (fun _=>False):=by
   refine so (fun c=>by rw [hTf]at c;cases c) (fun _ q=>?_)
   unfold ftGo
   rw [pn]at hpc⊢
   rw [hpc]
   exact⟨fun _=>rfl,fun w=>(by cases w)⟩
  have RC:=fun(P' Q':FTS×STS→Prop)=>RelT.clear (P':=P') (Q':=Q') (x:=ftPl sh kd ky most (x.tries+r.tries) p 1 a9 bU) (st:=⟨me,sp,x.R++r.R⟩) (a:=p.addr) Rc hor (fun z q=>q)
  have ft1:ftT1 (ftPl sh kd ky most (x.tries+r.tries) p 1 a9 bU)=x.tries+r.tries+1:=wT1
  have adc:Adv A 0 r.s x_1:=by rw [e1];exact(yY A t n r.s _).le (by decide)
  rw [←e1]at RC
  refine aF (fun l=>?_) (fun l=>?_)
  ·refine hK ⟨x_1,0,false,0,true,x.tries+r.tries+1,sp,x.R++r.R,true⟩ ⟨RC _ _ (fun _=>⟨rfl,rfl,rfl,rfl,ft1,rfl⟩) (fun c=>by rw [ft1]at c;have c:ilt most (x.tries+r.tries+1)=false:=c;rw [l]at c;cases c),hlen⟩ rfl
  ·refine aP (H:=yP A t n me sp sh kd ky most (okFT t n A i x0 l0 me sp sh kd ky most) (oB A)) ⟨x_1,x.tries+r.tries+1,x.R++r.R⟩ (by kernel_rfl) (leafN _ adc l ?_)
   refine RC _ _ (fun c=>by rw [ft1]at c;have c:ilt most (x.tries+r.tries+1)=true:=c;rw [l]at c;cases c) (fun _=>⟨p,?_⟩)
   unfold zW
   rw [ft1]
   rfl
 ·have adp:Adv A 0 r.s x_1:=by rw [e1];unfold vU;exact((eH A r.s 1 _).trans (kU A _ _ _)).le (by decide)
  have:=adp.lo
  omega
 ·have adp:Adv A 0 r.s x_1:=by rw [e1];unfold vU;exact((eH A r.s 1 _).trans (kU A _ _ _)).le (by decide)
  have:=adp.hi p2
  omega
 ·have adp:Adv A 0 r.s x_1:=by rw [e1];unfold vU;exact((eH A r.s 1 _).trans (kU A _ _ _)).le (by decide)
  have hpc:fG p.now p.code p.okk p.val p.addr p.old p.nxt p.mark p.pops=false:=by rw [AM p pn];exact pc
  have R2:RelT t n A i x0 r.s (fun z=>z=(ftPl sh kd ky most (x.tries+r.tries) p 2 a9 ⟨ky,r.curr,0,false⟩,⟨me,sp,x.R++r.R⟩)) (fun _=>False):=by
   refine so (fun c=>by rw [hTf]at c;cases c) (fun _ q=>?_)
   unfold ftGo
   rw [pn]at hpc⊢
   rw [hpc]
   have lk':bL (ft0 t n me sh kd ky most x.tries q).kd =true:=lk
   rw [lk']
   exact⟨fun _=>rfl,fun w=>(by cases w)⟩
  have R3:RelT t n A i x0 x_1 (fun z=>z=(ftPl sh kd ky most (x.tries+r.tries) p 3 a9 bU,⟨me,sp,x.R++r.R⟩)) (fun _=>False):=by
   rw [e1]
   exact RelT.prep (x:=ftPl sh kd ky most (x.tries+r.tries) p 2 a9 bU) (st:=⟨me,sp,x.R++r.R⟩) (nx:=r.curr) R2 rfl (fun z q=>q) rfl
  have RC:=fun(P' Q':FTS×STS→Prop)=>XR (P':=P') (Q':=Q') (x:=ftPl sh kd ky most (x.tries+r.tries) p 3 a9 bU) (st:=⟨me,sp,x.R++r.R⟩) (w:=bA p.now p.code p.okk p.val p.addr p.old p.nxt p.mark p.pops) R3 rfl (fun z q=>q) rfl
  have ft1:ftT1 (ftPl sh kd ky most (x.tries+r.tries) p 3 a9 bU)=x.tries+r.tries+1:=wT1
  have adc:Adv A 0 r.s (tCas A x_1 p.addr p.old (bA p.now p.code p.okk p.val p.addr p.old p.nxt p.mark p.pops)):=(adp.trans (nK A _ _ _ _)).le (by decide)
  have hok: ∀(sp':Int) (R':List Int),a4 (tGot A x_1 3 p.addr)=true→(bif bL kd then(0:Int)else sp)=sp'→(bif ieq p.pops 0 then x.R++r.R else x.R++r.R++ [p.pops])=R'→RelT t n A i x0 (tCas A x_1 p.addr p.old (bA p.now p.code p.okk p.val p.addr p.old p.nxt p.mark p.pops)) (fun _=>False) (vA me ⟨tCas A x_1 p.addr p.old (bA p.now p.code p.okk p.val p.addr p.old p.nxt p.mark p.pops),p.code,p.okk,p.val,false,x.tries+r.tries,sp',R',true⟩):=by
   intro sp' R' a h1 h2
   refine RC _ _ (fun _=>⟨rfl,rfl,rfl,rfl,rfl,?_⟩) (fun c=>by have c:a4 (tGot A x_1 3 p.addr)=false:=c;rw [a]at c;cases c) (fun c=>by have c:a4 (tGot A x_1 3 p.addr)=false:=c;rw [a]at c;cases c)
   show(⟨me,bif bL kd then 0 else sp,bif ieq p.pops 0 then x.R++r.R else x.R++r.R++ [p.pops]⟩:STS)=⟨me,sp',R'⟩
   rw [h1,h2]
  refine aF (fun a=>⟨trivial,aF (fun lk2=>aF (fun pp=>⟨⟨trivial,trivial,trivial,by omega⟩,?_⟩) (fun pp=>?_)) (fun lk2=>aF (fun pp=>⟨⟨trivial,trivial,trivial,by omega⟩,?_⟩) (fun pp=>?_))⟩) (fun a=>aF (fun l=>?_) (fun l=>?_))
  ·have pp:ieq p.pops 0=false:=by
    cases q:ieq p.pops 0
    ·rfl
    ·rw [q]at pp;cases pp
   exact hK ⟨tCas A x_1 p.addr p.old (bA p.now p.code p.okk p.val p.addr p.old p.nxt p.mark p.pops),p.code,p.okk,p.val,false,x.tries+r.tries,0,x.R++r.R++ [p.pops],true⟩ ⟨hok 0 (x.R++r.R++ [p.pops]) a (by simp only [lk2,cond_true,cond_false]) (by simp only [pp,cond_true,cond_false]),hlen1⟩ rfl
  ·have pp:ieq p.pops 0=true:=by
    cases q:ieq p.pops 0
    ·rw [q]at pp;cases pp
    ·rfl
   exact hK ⟨tCas A x_1 p.addr p.old (bA p.now p.code p.okk p.val p.addr p.old p.nxt p.mark p.pops),p.code,p.okk,p.val,false,x.tries+r.tries,0,x.R++r.R,true⟩ ⟨hok 0 (x.R++r.R) a (by simp only [lk2,cond_true,cond_false]) (by simp only [pp,cond_true,cond_false]),hlen⟩ rfl
  ·have pp:ieq p.pops 0=false:=by
    cases q:ieq p.pops 0
    ·rfl
    ·rw [q]at pp;cases pp
   exact hK ⟨tCas A x_1 p.addr p.old (bA p.now p.code p.okk p.val p.addr p.old p.nxt p.mark p.pops),p.code,p.okk,p.val,false,x.tries+r.tries,sp,x.R++r.R++ [p.pops],true⟩ ⟨hok sp (x.R++r.R++ [p.pops]) a (by simp only [lk2,cond_true,cond_false]) (by simp only [pp,cond_true,cond_false]),hlen1⟩ rfl
  ·have pp:ieq p.pops 0=true:=by
    cases q:ieq p.pops 0
    ·rw [q]at pp;cases pp
    ·rfl
   exact hK ⟨tCas A x_1 p.addr p.old (bA p.now p.code p.okk p.val p.addr p.old p.nxt p.mark p.pops),p.code,p.okk,p.val,false,x.tries+r.tries,sp,x.R++r.R,true⟩ ⟨hok sp (x.R++r.R) a (by simp only [lk2,cond_true,cond_false]) (by simp only [pp,cond_true,cond_false]),hlen⟩ rfl
  ·refine hK ⟨tCas A x_1 p.addr p.old (bA p.now p.code p.okk p.val p.addr p.old p.nxt p.mark p.pops),0,false,0,true,x.tries+r.tries+1,sp,x.R++r.R,true⟩ ⟨RC _ _ (fun c=>by have c:a4 (tGot A x_1 3 p.addr)=true:=c;rw [a]at c;cases c) (fun _ _=>⟨rfl,rfl,rfl,rfl,ft1,rfl⟩) (fun _ c=>by rw [ft1]at c;have c:ilt most (x.tries+r.tries+1)=false:=c;rw [l]at c;cases c),hlen⟩ rfl
  ·refine aP (H:=yP A t n me sp sh kd ky most (okFT t n A i x0 l0 me sp sh kd ky most) (oB A)) ⟨tCas A x_1 p.addr p.old (bA p.now p.code p.okk p.val p.addr p.old p.nxt p.mark p.pops),x.tries+r.tries+1,x.R++r.R⟩ (by kernel_rfl) (leafN _ adc l ?_)
   refine RC _ _ (fun c=>by have c:a4 (tGot A x_1 3 p.addr)=true:=c;rw [a]at c;cases c) (fun _ c=>by rw [ft1]at c;have c:ilt most (x.tries+r.tries+1)=true:=c;rw [l]at c;cases c) (fun _ _=>⟨p,?_⟩)
   unfold zW
   rw [ft1]
   rfl
 ·have hpc:fG p.now p.code p.okk p.val p.addr p.old p.nxt p.mark p.pops=false:=by rw [AM p pn];exact pc
  have R3:RelT t n A i x0 r.s (fun z=>z=(ftPl sh kd ky most (x.tries+r.tries) p 3 a9 bU,⟨me,sp,x.R++r.R⟩)) (fun _=>False):=by
   refine so (fun c=>by rw [hTf]at c;cases c) (fun _ q=>?_)
   unfold ftGo
   rw [pn]at hpc⊢
   rw [hpc]
   have lk':bL (ft0 t n me sh kd ky most x.tries q).kd =false:=lk
   rw [lk']
   exact⟨fun _=>rfl,fun w=>(by cases w)⟩
  have RC:=fun(P' Q':FTS×STS→Prop)=>XR (P':=P') (Q':=Q') (x:=ftPl sh kd ky most (x.tries+r.tries) p 3 a9 bU) (st:=⟨me,sp,x.R++r.R⟩) (w:=bA p.now p.code p.okk p.val p.addr p.old p.nxt p.mark p.pops) R3 rfl (fun z q=>q) rfl
  have ft1:ftT1 (ftPl sh kd ky most (x.tries+r.tries) p 3 a9 bU)=x.tries+r.tries+1:=wT1
  have adc:Adv A 0 r.s (tCas A r.s p.addr p.old (bA p.now p.code p.okk p.val p.addr p.old p.nxt p.mark p.pops)):=((XT r.s).trans (nK A _ _ _ _)).le (by decide)
  have hok: ∀(sp':Int) (R':List Int),a4 (tGot A r.s 3 p.addr)=true→(bif bL kd then(0:Int)else sp)=sp'→(bif ieq p.pops 0 then x.R++r.R else x.R++r.R++ [p.pops])=R'→RelT t n A i x0 (tCas A r.s p.addr p.old (bA p.now p.code p.okk p.val p.addr p.old p.nxt p.mark p.pops)) (fun _=>False) (vA me ⟨tCas A r.s p.addr p.old (bA p.now p.code p.okk p.val p.addr p.old p.nxt p.mark p.pops),p.code,p.okk,p.val,false,x.tries+r.tries,sp',R',true⟩):=by
   intro sp' R' a h1 h2
   refine RC _ _ (fun _=>⟨rfl,rfl,rfl,rfl,rfl,?_⟩) (fun c=>by have c:a4 (tGot A r.s 3 p.addr)=false:=c;rw [a]at c;cases c) (fun c=>by have c:a4 (tGot A r.s 3 p.addr)=false:=c;rw [a]at c;cases c)
   show(⟨me,bif bL kd then 0 else sp,bif ieq p.pops 0 then x.R++r.R else x.R++r.R++ [p.pops]⟩:STS)=⟨me,sp',R'⟩
   rw [h1,h2]
  refine aF (fun a=>⟨trivial,aF (fun lk2=>aF (fun pp=>⟨⟨trivial,(List.length_append).symm,trivial,by omega⟩,?_⟩) (fun pp=>?_)) (fun lk2=>aF (fun pp=>⟨⟨trivial,(List.length_append).symm,trivial,by omega⟩,?_⟩) (fun pp=>?_))⟩) (fun a=>aF (fun l=>?_) (fun l=>?_))
  ·have pp:ieq p.pops 0=false:=by
    cases q:ieq p.pops 0
    ·rfl
    ·rw [q]at pp;cases pp
   exact hK ⟨tCas A r.s p.addr p.old (bA p.now p.code p.okk p.val p.addr p.old p.nxt p.mark p.pops),p.code,p.okk,p.val,false,x.tries+r.tries,0,x.R++r.R++ [p.pops],true⟩ ⟨hok 0 (x.R++r.R++ [p.pops]) a (by simp only [lk2,cond_true,cond_false]) (by simp only [pp,cond_true,cond_false]),hlen1⟩ rfl
  ·have pp:ieq p.pops 0=true:=by
    cases q:ieq p.pops 0
    ·rw [q]at pp;cases pp
    ·rfl
   exact hK ⟨tCas A r.s p.addr p.old (bA p.now p.code p.okk p.val p.addr p.old p.nxt p.mark p.pops),p.code,p.okk,p.val,false,x.tries+r.tries,0,x.R++r.R,true⟩ ⟨hok 0 (x.R++r.R) a (by simp only [lk2,cond_true,cond_false]) (by simp only [pp,cond_true,cond_false]),hlen⟩ rfl
  ·have pp:ieq p.pops 0=false:=by
    cases q:ieq p.pops 0
    ·rfl
    ·rw [q]at pp;cases pp
   exact hK ⟨tCas A r.s p.addr p.old (bA p.now p.code p.okk p.val p.addr p.old p.nxt p.mark p.pops),p.code,p.okk,p.val,false,x.tries+r.tries,sp,x.R++r.R++ [p.pops],true⟩ ⟨hok sp (x.R++r.R++ [p.pops]) a (by simp only [lk2,cond_true,cond_false]) (by simp only [pp,cond_true,cond_false]),hlen1⟩ rfl
  ·have pp:ieq p.pops 0=true:=by
    cases q:ieq p.pops 0
    ·rw [q]at pp;cases pp
    ·rfl
   exact hK ⟨tCas A r.s p.addr p.old (bA p.now p.code p.okk p.val p.addr p.old p.nxt p.mark p.pops),p.code,p.okk,p.val,false,x.tries+r.tries,sp,x.R++r.R,true⟩ ⟨hok sp (x.R++r.R) a (by simp only [lk2,cond_true,cond_false]) (by simp only [pp,cond_true,cond_false]),hlen⟩ rfl
  ·refine hK ⟨tCas A r.s p.addr p.old (bA p.now p.code p.okk p.val p.addr p.old p.nxt p.mark p.pops),0,false,0,true,x.tries+r.tries+1,sp,x.R++r.R,true⟩ ⟨RC _ _ (fun c=>by have c:a4 (tGot A r.s 3 p.addr)=true:=c;rw [a]at c;cases c) (fun _ _=>⟨rfl,rfl,rfl,rfl,ft1,rfl⟩) (fun _ c=>by rw [ft1]at c;have c:ilt most (x.tries+r.tries+1)=false:=c;rw [l]at c;cases c),hlen⟩ rfl
  ·refine aP (H:=yP A t n me sp sh kd ky most (okFT t n A i x0 l0 me sp sh kd ky most) (oB A)) ⟨tCas A r.s p.addr p.old (bA p.now p.code p.okk p.val p.addr p.old p.nxt p.mark p.pops),x.tries+r.tries+1,x.R++r.R⟩ (by kernel_rfl) (leafN _ adc l ?_)
   refine RC _ _ (fun c=>by have c:a4 (tGot A r.s 3 p.addr)=true:=c;rw [a]at c;cases c) (fun _ c=>by rw [ft1]at c;have c:ilt most (x.tries+r.tries+1)=true:=c;rw [l]at c;cases c) (fun _ _=>⟨p,?_⟩)
   unfold zW
   rw [ft1]
   rfl
end
end Go.Sh
namespace Go.Sh
open Go Go.Proofs
variable [Con]
section
variable {t n:Int} {A:List (List Int)} {i:Nat} {me sp sh kd ky most:Int} {R:List Int}
structure tG (t n:Int) (A:List (List Int)) (i:Nat) (me most:Int) (l0:Nat):Prop where
 hA:okAW A
 len:A.length≤100000
 hi:i≤A.length
 ht:0≤t∧t≤100000
 hn:0≤n∧n≤1000
 hm:0≤me∧me≤1000
 hl:0≤most∧most≤1000
 h0:l0≤1000000
def ftN0(t n me sp sh kd ky most:Int)(R:List Int):FTS×STS:=(ft0 t n me sh kd ky most 0 JR,⟨me,sp,R⟩)
theorem F3(F:tG t n A i me most R.length){K:AVal→aB Ob→Prop}(h:bT sh kd ky=false∨bL kd=true∧sp=0)
 (hA: ∀r,fS t n A i (ftN0 t n me sp sh kd ky most R) me R.length r→r.ap=false→K (MU r) (F1 A me r)) (x:Int×TS) (ex:x=(a2 (tGot A ⟨(i:Int),false,false⟩ 1 0),aG A ⟨(i:Int),false,false⟩ 1 0)):
 K (.agg [.int .i64 0,.bool false,.int .i64 0,.bool true,.int .i64 0]) (F1 A me ⟨x.2,0,false,0,true,0,sp,R,false⟩):=by
 refine hA ⟨x.2,0,false,0,true,0,sp,R,false⟩ ⟨?_,by show(R.length:Int)≤_;omega⟩ rfl
 subst ex
 have e: ∀σ:MS,ftZ t n (ftN0 t n me sp sh kd ky most R) σ=_:=fun σ=>PI (x:=ft0 t n me sh kd ky most 0 JR) (st:=⟨me,sp,R⟩) (s:=σ) rfl h
 refine RelT.start.load (fun y σ p=>?_) (fun y σ p _=>?_)
 ·subst p;rw [e]
 ·subst p;rw [e]
  exact⟨fun w=>(by cases w),fun _=>⟨rfl,rfl,rfl,rfl,rfl,rfl⟩⟩
theorem RP(F:tG t n A i me most R.length){K:AVal→aB Ob→Prop}
 (hA: ∀r,fS t n A i (ftN0 t n me sp sh kd ky most R) me R.length r→r.ap=false→K (MU r) (F1 A me r))
 (hB: ∀r,fS t n A i (ftN0 t n me sp sh kd ky most R) me R.length r→r.ap=true→K (MU r) (J6 A me r)):
 J7 A t n me sp sh kd ky most R ⟨(i:Int),false,false⟩ (okFT t n A i (ftN0 t n me sp sh kd ky most R) R.length me sp sh kd ky most) (oB A) K:=by
 have f1:=F.len
 have f2:=F.hi
 have f3:=F.hl
 have ld:List.length A=List.length A∧okAW A∧(0:Int)≤(i:Int)∧(i:Int)≤(4000000000000000000:Int):=⟨rfl,F.hA,by omega,by omega⟩
 have body: ∀(hr:bT sh kd ky=true) (hl:bL kd=true→sp≠0),BQ t n A i me sp sh kd ky most R.length:=fun hr hl=>⟨F.hA,F.len,F.hi,F.ht,F.hn,F.hm,F.hl,F.h0,hr,hl⟩
 have ini:okFT t n A i (ftN0 t n me sp sh kd ky most R) R.length me sp sh kd ky most ⟨⟨(i:Int),false,false⟩,0,R⟩:=
  ⟨Int.le_refl _,by show(i:Int)≤_;omega,by show(0:Int)≤0∧(0:Int)≤most;omega,by show(R.length:Int)≤R.length+2*((i:Int) - i);omega,RelT.start.mono (fun y q=>⟨JR,q⟩) (fun _ q=>q)⟩
 have st1: ∀(hr:bT sh kd ky=true) (hl:bL kd=true→sp≠0) (x:FTX),okFT t n A i (ftN0 t n me sp sh kd ky most R) R.length me sp sh kd ky most x→ovf x.s=false→
  ((lE' A∧x.s.bad=false∧x.s.out=false∧(0:Int)≤x.s.i∧jN t n A x.s.i.toNat me (cR sh ky) (fA sh kd ky) (W (most - x.tries)))∧True)∧True:=by
  intro hr hl x hx ho
  have:=hx.lo
  exact⟨⟨⟨rfl,(kJ ho).1,(kJ ho).2,by omega,(hx.fig (body hr hl)).2⟩,trivial⟩,trivial⟩
 have hd: ∀(x:FTX) (ap:Bool),okFT t n A i (ftN0 t n me sp sh kd ky most R) R.length me sp sh kd ky most x→ovf x.s=true→fS t n A i (ftN0 t n me sp sh kd ky most R) me R.length ⟨x.s,0,false,0,false,x.tries,sp,x.R,ap⟩:=by
  intro x ap hx ho
  refine⟨RelT.over hx.rel ho,?_⟩
  have:=hx.hR
  have:=hx.hi
  show(x.R.length:Int)≤_
  omega
 have hs: ∀(hr:bT sh kd ky=true) (hl:bL kd=true→sp≠0) (x:FTX) (ap:Bool),okFT t n A i (ftN0 t n me sp sh kd ky most R) R.length me sp sh kd ky most x→ovf x.s=false→ovf (fr A t n me sh kd ky most x).s =true→fS t n A i (ftN0 t n me sp sh kd ky most R) me R.length ⟨(fr A t n me sh kd ky most x).s,0,false,0,false,x.tries,sp,x.R,ap⟩:=by
  intro hr hl x ap hx ho hv
  refine⟨RelT.over (XS (P':=fun _=>True) (Q':=fun _=>True) (body hr hl) hx ho rfl (fun _ _=>trivial) (fun _ _=>⟨fun _=>trivial,fun _=>trivial⟩)) hv,?_⟩
  have:=hx.hR
  have:=hx.hi
  show(x.R.length:Int)≤_
  omega
 have loop: ∀(hr:bT sh kd ky=true) (hl:bL kd=true→sp≠0) (x:FTX),okFT t n A i (ftN0 t n me sp sh kd ky most R) R.length me sp sh kd ky most x→ ∀(b:Nat),b=oB A x→ ∀(ap:Bool) (X Y:Prop),(ovf (fr A t n me sh kd ky most x).s =true→ovf x.s=false→X)→(ovf x.s=true→Y)→
  bif !bif x.1.2 then true else x.1.3 then(((lE' A∧x.s.bad=false∧x.s.out=false∧(0:Int)≤x.s.i∧jN t n A x.s.i.toNat me (cR sh ky) (fA sh kd ky) (W (most - x.tries)))∧True)∧True∧bif bif (fr A t n me sh kd ky most x).s.bad then true else(fr A t n me sh kd ky most x).s.out then X else zO A t n me sp sh kd ky most (okFT t n A i (ftN0 t n me sp sh kd ky most R) R.length me sp sh kd ky most) (oB A) K x b)else Y:=by
  intro hr hl x hx b hb ap X Y hX hY
  refine aF (fun o=>?_) (fun o=>hY ?_)
  ·have o:ovf x.s=false:=by
    show(bif x.1.2 then true else x.1.3)=false
    cases q:(bif x.1.2 then true else x.1.3)
    ·rfl
    ·rw [q]at o;cases o
   have s1:=st1 hr hl x hx o
   refine⟨s1.1,trivial,aF (fun v=>hX v o) (fun v=>?_)⟩
   exact RM (body hr hl) hx o hb v hB
  ·show(bif x.1.2 then true else x.1.3)=true
   cases q:(bif x.1.2 then true else x.1.3)
   ·rw [q]at o;cases o
   ·rfl
 unfold J7
 refine⟨trivial,aF (fun e=>⟨ld,fun x ex=>?_⟩) (fun e=>⟨trivial,aF (fun lk=>aF (fun z=>⟨ld,fun x ex=>?_⟩) (fun z=>?_)) (fun lk=>?_)⟩)⟩
 ·have e:bT sh kd ky=false:=by
   cases q:bT sh kd ky
   ·rfl
   ·rw [q]at e;cases e
  exact F3 F (.inl e) hA x ex
 ·rw [bC,beq_iff_eq]at z
  exact F3 F (.inr ⟨lk,z⟩) hA x ex
 ·have hr:bT sh kd ky=true:=by
   cases q:bT sh kd ky
   ·rw [q]at e;cases e
   ·rfl
  have hl:bL kd=true→sp≠0:=fun _=>by rw [bC,beq_eq_false_iff_ne]at z;exact z
  refine⟨hr,aP (H:=HFA A t n me sp sh kd ky most (okFT t n A i (ftN0 t n me sp sh kd ky most R) R.length me sp sh kd ky most) (oB A)) ⟨⟨(i:Int),false,false⟩,0,R⟩ (by kernel_rfl) ⟨ini,trivial⟩,fun x hx=>⟨trivial,loop hr hl x hx _ rfl false _ _ (fun v o=>?_) (fun v=>?_)⟩,fun x hx=>⟨trivial,loop hr hl x hx _ rfl true _ _ (fun v o=>?_) (fun v=>?_)⟩,trivial⟩
  ·exact hA _ (hs hr hl x false hx o v) rfl
  ·exact hA _ (hd x false hx v) rfl
  ·exact hB _ (hs hr hl x true hx o v) rfl
  ·exact hB _ (hd x true hx v) rfl
 ·have hr:bT sh kd ky=true:=by
   cases q:bT sh kd ky
   ·rw [q]at e;cases e
   ·rfl
  have hl:bL kd=true→sp≠0:=fun c=>by rw [lk]at c;cases c
  refine⟨hr,aP (H:=HFA A t n me sp sh kd ky most (okFT t n A i (ftN0 t n me sp sh kd ky most R) R.length me sp sh kd ky most) (oB A)) ⟨⟨(i:Int),false,false⟩,0,R⟩ (by kernel_rfl) ⟨ini,trivial⟩,fun x hx=>⟨trivial,loop hr hl x hx _ rfl false _ _ (fun v o=>?_) (fun v=>?_)⟩,fun x hx=>⟨trivial,loop hr hl x hx _ rfl true _ _ (fun v o=>?_) (fun v=>?_)⟩,trivial⟩
  ·exact hA _ (hs hr hl x false hx o v) rfl
  ·exact hA _ (hd x false hx v) rfl
  ·exact hB _ (hs hr hl x true hx o v) rfl
  ·exact hB _ (hd x true hx v) rfl
end
def ffS:aL Ob:=fun args h=>match args,h with
 | [.ptr 0 0,.agg [.int .i64 t,.int .i64 n],.ptr 2 0,.agg [.int .i64 sh,.int .i64 kd,.int .i64 ky],.int .i64 most],[e0,e1,some (.cells [.int .i64 me,.int .i64 sp,.slice 3 0 k 1]),some (.ints (some .i64) R)]=>(match eD [e0,e1]with
   | some (l,s,A)=>some (.pre (l=A.length∧k=R.length∧s.bad=false∧s.out=false∧0≤s.i∧tG t n A s.i.toNat me most R.length) (.all FFR (fun r=>fS t n A s.i.toNat (ftN0 t n me sp sh kd ky most R) me R.length r) fun r=>.ite r.ap (.ret (MU r) (J6 A me r)) (.ret (MU r) (F1 A me r))))
   | none=>none)
 | _,_=>none
theorem RO:sT' 27 ffS:=by
 intro args h o ho K hK
 unfold ffS at ho
 split at ho
 case h_2=>cases ho
 rename_i t n sh kd ky most e0 e1 me sp k R
 split at ho<;>cases ho
 rename_i l s A hm
 obtain⟨⟨hl,rfl,hb,hu,hi,F⟩,hK⟩:=hK
 have hh:=d9 hm hl
 unfold cN at hh
 cases hh
 obtain⟨i,bad,out⟩:=s
 have hb:bad=false:=hb
 have hu:out=false:=hu
 subst hb hu
 have hi:0≤i:=hi
 have ei:((i.toNat:Nat):Int)=i:=by omega
 have hK: ∀r,fS t n A i.toNat (ftN0 t n me sp sh kd ky most R) me R.length r→cond r.ap (K (MU r) (J6 A me r)) (K (MU r) (F1 A me r)):=hK
 have q:=F4 A t n me sp sh kd ky most R ⟨(i.toNat:Int),false,false⟩ _ _ K (RP F (fun r p c=>by have:=hK r p;rw [c]at this;exact this) (fun r p c=>by have:=hK r p;rw [c]at this;exact this))
 rw [ei]at q
 exact q
end Go.Sh
namespace Go.Sh
open Go Go.Proofs
variable [Con]
noncomputable def EFL:=(EFt.addS 26 watchFtS A0).addS 27 (cU KA ffS) (cD RO)
def KB(t n me sp u no lim:Int)(ws ns tk:List Int)(p:Nat)(fa fx:Nat→Int):Prop:=True∧bif ilt 60 (↑(List.length ws):Int)then AVal.bool true=AVal.bool true else bif ilt 60 (↑p:Int)then AVal.bool true=AVal.bool true else bif ilt 40 (↑(List.length ns):Int)then AVal.bool true=AVal.bool true else bif ieq (↑(List.length tk):Int) 0 then AVal.bool true=AVal.bool true else(((0:Int)≤t∧t≤(255:Int))∧(0:Int)≤n∧n≤(255:Int))∧((0:Int)≤(0:Int)∧(0:Int)<(↑(List.length tk):Int))∧((0:Int)≤List.getD tk (Int.toNat 0) 0∧List.getD tk (Int.toNat 0) (0:Int)≤(18446744073709551615:Int))∧((((0:Int)≤me∧me≤(255:Int))∧((0:Int)≤sp∧sp≤(255:Int))∧((1:Int)≤thr t∧thr t≤(1000:Int))∧((1:Int)≤nod n∧nod n≤(1000:Int))∧List.length ns≤(100000:Nat))∧ ∀(v:Int),List.Mem v ns→(0:Int)≤v∧v≤(255:Int))∧(8:Int)≠(0:Int)∧(lE' (mkL (nod n) (Int.tmod sp (nod n+1)) ns)∧nT (thr t) (nod n) (bif ilt (List.getD tk (Int.toNat 0) 0) 65536 then aA (List.getD tk (Int.toNat 0) 0) 0 3 else 0) (bif ilt (List.getD tk (Int.toNat 0) 0) 65536 then aA (List.getD tk (Int.toNat 0) 0) 3 3 else 0) (bif ilt (List.getD tk (Int.toNat 0) 0) 65536 then aA (List.getD tk (Int.toNat 0) 0) 6 10 else 0) (Int.tmod (W lim) 8) {me:=Int.tmod me (thr t),sp:=Int.tmod sp (nod n+1),R:=mkL (nod n) (Int.tmod sp (nod n+1)) ns})∧((lE' (memW (thr t) (nod n) ws)∧thr t=thr t∧nod n=nod n∧lE' (Prod.snd (bG (thr t) (nod n) (bif ilt (List.getD tk (Int.toNat 0) 0) 65536 then aA (List.getD tk (Int.toNat 0) 0) 0 3 else 0) (bif ilt (List.getD tk (Int.toNat 0) 0) 65536 then aA (List.getD tk (Int.toNat 0) 0) 3 3 else 0) (bif ilt (List.getD tk (Int.toNat 0) 0) 65536 then aA (List.getD tk (Int.toNat 0) 0) 6 10 else 0) (Int.tmod (W lim) 8) {me:=Int.tmod me (thr t),sp:=Int.tmod sp (nod n+1),R:=mkL (nod n) (Int.tmod sp (nod n+1)) ns})).3)∧((1:Int)≤thr t∧thr t≤(1000:Int))∧((1:Int)≤nod n∧nod n≤(1000:Int))∧(0:Int)=(0:Int)∧okW (memW (thr t) (nod n) ws)∧(∃b0,((0:Int)≤b0∧b0≤(800000:Int))∧ftW (thr t) b0 {me:=(Prod.snd (bG (thr t) (nod n) (bif ilt (List.getD tk (Int.toNat 0) 0) 65536 then aA (List.getD tk (Int.toNat 0) 0) 0 3 else 0) (bif ilt (List.getD tk (Int.toNat 0) 0) 65536 then aA (List.getD tk (Int.toNat 0) 0) 3 3 else 0) (bif ilt (List.getD tk (Int.toNat 0) 0) 65536 then aA (List.getD tk (Int.toNat 0) 0) 6 10 else 0) (Int.tmod (W lim) 8) {me:=Int.tmod me (thr t),sp:=Int.tmod sp (nod n+1),R:=mkL (nod n) (Int.tmod sp (nod n+1)) ns})).1,sp:=(Prod.snd (bG (thr t) (nod n) (bif ilt (List.getD tk (Int.toNat 0) 0) 65536 then aA (List.getD tk (Int.toNat 0) 0) 0 3 else 0) (bif ilt (List.getD tk (Int.toNat 0) 0) 65536 then aA (List.getD tk (Int.toNat 0) 0) 3 3 else 0) (bif ilt (List.getD tk (Int.toNat 0) 0) 65536 then aA (List.getD tk (Int.toNat 0) 0) 6 10 else 0) (Int.tmod (W lim) 8) {me:=Int.tmod me (thr t),sp:=Int.tmod sp (nod n+1),R:=mkL (nod n) (Int.tmod sp (nod n+1)) ns})).2,R:=(Prod.snd (bG (thr t) (nod n) (bif ilt (List.getD tk (Int.toNat 0) 0) 65536 then aA (List.getD tk (Int.toNat 0) 0) 0 3 else 0) (bif ilt (List.getD tk (Int.toNat 0) 0) 65536 then aA (List.getD tk (Int.toNat 0) 0) 3 3 else 0) (bif ilt (List.getD tk (Int.toNat 0) 0) 65536 then aA (List.getD tk (Int.toNat 0) 0) 6 10 else 0) (Int.tmod (W lim) 8) {me:=Int.tmod me (thr t),sp:=Int.tmod sp (nod n+1),R:=mkL (nod n) (Int.tmod sp (nod n+1)) ns})).3} (Prod.fst (bG (thr t) (nod n) (bif ilt (List.getD tk (Int.toNat 0) 0) 65536 then aA (List.getD tk (Int.toNat 0) 0) 0 3 else 0) (bif ilt (List.getD tk (Int.toNat 0) 0) 65536 then aA (List.getD tk (Int.toNat 0) 0) 3 3 else 0) (bif ilt (List.getD tk (Int.toNat 0) 0) 65536 then aA (List.getD tk (Int.toNat 0) 0) 6 10 else 0) (Int.tmod (W lim) 8) {me:=Int.tmod me (thr t),sp:=Int.tmod sp (nod n+1),R:=mkL (nod n) (Int.tmod sp (nod n+1)) ns}))∧stW b0 {me:=(Prod.snd (bG (thr t) (nod n) (bif ilt (List.getD tk (Int.toNat 0) 0) 65536 then aA (List.getD tk (Int.toNat 0) 0) 0 3 else 0) (bif ilt (List.getD tk (Int.toNat 0) 0) 65536 then aA (List.getD tk (Int.toNat 0) 0) 3 3 else 0) (bif ilt (List.getD tk (Int.toNat 0) 0) 65536 then aA (List.getD tk (Int.toNat 0) 0) 6 10 else 0) (Int.tmod (W lim) 8) {me:=Int.tmod me (thr t),sp:=Int.tmod sp (nod n+1),R:=mkL (nod n) (Int.tmod sp (nod n+1)) ns})).1,sp:=(Prod.snd (bG (thr t) (nod n) (bif ilt (List.getD tk (Int.toNat 0) 0) 65536 then aA (List.getD tk (Int.toNat 0) 0) 0 3 else 0) (bif ilt (List.getD tk (Int.toNat 0) 0) 65536 then aA (List.getD tk (Int.toNat 0) 0) 3 3 else 0) (bif ilt (List.getD tk (Int.toNat 0) 0) 65536 then aA (List.getD tk (Int.toNat 0) 0) 6 10 else 0) (Int.tmod (W lim) 8) {me:=Int.tmod me (thr t),sp:=Int.tmod sp (nod n+1),R:=mkL (nod n) (Int.tmod sp (nod n+1)) ns})).2,R:=(Prod.snd (bG (thr t) (nod n) (bif ilt (List.getD tk (Int.toNat 0) 0) 65536 then aA (List.getD tk (Int.toNat 0) 0) 0 3 else 0) (bif ilt (List.getD tk (Int.toNat 0) 0) 65536 then aA (List.getD tk (Int.toNat 0) 0) 3 3 else 0) (bif ilt (List.getD tk (Int.toNat 0) 0) 65536 then aA (List.getD tk (Int.toNat 0) 0) 6 10 else 0) (Int.tmod (W lim) 8) {me:=Int.tmod me (thr t),sp:=Int.tmod sp (nod n+1),R:=mkL (nod n) (Int.tmod sp (nod n+1)) ns})).3})∧ ∃fa_1 fx_1:Nat→Int,(((fun i=>[.int .i64 (fa i),.int .u64 (fx i)]):Nat→List AVal)=fun i=>[.int .i64 (fa_1 i),.int .u64 (fx_1 i)])∧ ∀(i:Nat),(0:Int)≤fx_1 i∧fx_1 i≤(18446744073709551615:Int))∧ ∀(x:FWR),rH (thr t) (nod n) ((bG (thr t) (nod n) (bif ilt (List.getD tk (Int.toNat 0) 0) 65536 then aA (List.getD tk (Int.toNat 0) 0) 0 3 else 0) (bif ilt (List.getD tk (Int.toNat 0) 0) 65536 then aA (List.getD tk (Int.toNat 0) 0) 3 3 else 0) (bif ilt (List.getD tk (Int.toNat 0) 0) 65536 then aA (List.getD tk (Int.toNat 0) 0) 6 10 else 0) (Int.tmod (W lim) 8) {me:=Int.tmod me (thr t),sp:=Int.tmod sp (nod n+1),R:=mkL (nod n) (Int.tmod sp (nod n+1)) ns}).1,{me:=(Prod.snd (bG (thr t) (nod n) (bif ilt (List.getD tk (Int.toNat 0) 0) 65536 then aA (List.getD tk (Int.toNat 0) 0) 0 3 else 0) (bif ilt (List.getD tk (Int.toNat 0) 0) 65536 then aA (List.getD tk (Int.toNat 0) 0) 3 3 else 0) (bif ilt (List.getD tk (Int.toNat 0) 0) 65536 then aA (List.getD tk (Int.toNat 0) 0) 6 10 else 0) (Int.tmod (W lim) 8) {me:=Int.tmod me (thr t),sp:=Int.tmod sp (nod n+1),R:=mkL (nod n) (Int.tmod sp (nod n+1)) ns})).1,sp:=(Prod.snd (bG (thr t) (nod n) (bif ilt (List.getD tk (Int.toNat 0) 0) 65536 then aA (List.getD tk (Int.toNat 0) 0) 0 3 else 0) (bif ilt (List.getD tk (Int.toNat 0) 0) 65536 then aA (List.getD tk (Int.toNat 0) 0) 3 3 else 0) (bif ilt (List.getD tk (Int.toNat 0) 0) 65536 then aA (List.getD tk (Int.toNat 0) 0) 6 10 else 0) (Int.tmod (W lim) 8) {me:=Int.tmod me (thr t),sp:=Int.tmod sp (nod n+1),R:=mkL (nod n) (Int.tmod sp (nod n+1)) ns})).2,R:=(Prod.snd (bG (thr t) (nod n) (bif ilt (List.getD tk (Int.toNat 0) 0) 65536 then aA (List.getD tk (Int.toNat 0) 0) 0 3 else 0) (bif ilt (List.getD tk (Int.toNat 0) 0) 65536 then aA (List.getD tk (Int.toNat 0) 0) 3 3 else 0) (bif ilt (List.getD tk (Int.toNat 0) 0) 65536 then aA (List.getD tk (Int.toNat 0) 0) 6 10 else 0) (Int.tmod (W lim) 8) {me:=Int.tmod me (thr t),sp:=Int.tmod sp (nod n+1),R:=mkL (nod n) (Int.tmod sp (nod n+1)) ns})).3}) x→bif x.1 then(8:Int)≠(0:Int)∧(lE' (FWR.x x).5∧lE' (mkL (nod n) (Int.tmod sp (nod n+1)) ns)∧false=false∧false=false∧(0:Int)≤(0:Int)∧tG (thr t) (nod n) (FWR.x x).5 (Int.toNat (TS.i {i:=0,bad:=false,out:=false})) (Int.tmod me (thr t)) (Int.tmod (W lim) 8) (List.length (mkL (nod n) (Int.tmod sp (nod n+1)) ns)))∧ ∀(x_1:FFR),fS (thr t) (nod n) (FWR.x x).5 (Int.toNat (TS.i {i:=0,bad:=false,out:=false})) (ftN0 (thr t) (nod n) (Int.tmod me (thr t)) (Int.tmod sp (nod n+1)) (bif ilt (List.getD tk (Int.toNat 0) 0) 65536 then aA (List.getD tk (Int.toNat 0) 0) 0 3 else 0) (bif ilt (List.getD tk (Int.toNat 0) 0) 65536 then aA (List.getD tk (Int.toNat 0) 0) 3 3 else 0) (bif ilt (List.getD tk (Int.toNat 0) 0) 65536 then aA (List.getD tk (Int.toNat 0) 0) 6 10 else 0) (Int.tmod (W lim) 8) (mkL (nod n) (Int.tmod sp (nod n+1)) ns)) (Int.tmod me (thr t)) (List.length (mkL (nod n) (Int.tmod sp (nod n+1)) ns)) x_1→bif x_1.9 then True∧bif !iS (↑(List.length (FWR.x x).5):Int) x_1.1 true then AVal.bool false=AVal.bool true else bif bif ieq (FtO.x x.2).1 x_1.2 then bif bif (FtO.x x.2).2 then x_1.3 else !x_1.3 then bif ieq (FtO.x x.2).3 x_1.4 then true else false else false else false then bif bif (FtO.x x.2).4 then x_1.5 else !x_1.5 then bif ieq (FtO.x x.2).5 x_1.6 then bif ieq (FtO.st x.2).1 (Int.tmod me (thr t))then bif ieq (FtO.st x.2).2 x_1.7 then((lE' (FtO.st x.2).3∧lE' x_1.8)∧List.length (FtO.st x.2).3≤(4294967296:Nat))∧AVal.bool (mM (FtO.st x.2).3 x_1.8)=AVal.bool true else AVal.bool false=AVal.bool true else AVal.bool false=AVal.bool true else AVal.bool false=AVal.bool true else AVal.bool false=AVal.bool true else AVal.bool false=AVal.bool true else True∧bif !iS (↑(List.length (FWR.x x).5):Int) x_1.1 true then AVal.bool false=AVal.bool true else bif bif ieq (FtO.x x.2).1 x_1.2 then bif bif (FtO.x x.2).2 then x_1.3 else !x_1.3 then bif ieq (FtO.x x.2).3 x_1.4 then true else false else false else false then bif bif (FtO.x x.2).4 then x_1.5 else !x_1.5 then bif ieq (FtO.x x.2).5 x_1.6 then bif ieq (FtO.st x.2).1 (Int.tmod me (thr t))then bif ieq (FtO.st x.2).2 x_1.7 then((lE' (FtO.st x.2).3∧lE' x_1.8)∧List.length (FtO.st x.2).3≤(4294967296:Nat))∧AVal.bool (mM (FtO.st x.2).3 x_1.8)=AVal.bool true else AVal.bool false=AVal.bool true else AVal.bool false=AVal.bool true else AVal.bool false=AVal.bool true else AVal.bool false=AVal.bool true else AVal.bool false=AVal.bool true else(8:Int)≠(0:Int)∧(lE' (FWR.x x).5∧lE' (mkL (nod n) (Int.tmod sp (nod n+1)) ns)∧false=false∧false=false∧(0:Int)≤(0:Int)∧tG (thr t) (nod n) (FWR.x x).5 (Int.toNat (TS.i {i:=0,bad:=false,out:=false})) (Int.tmod me (thr t)) (Int.tmod (W lim) 8) (List.length (mkL (nod n) (Int.tmod sp (nod n+1)) ns)))∧ ∀(x_1:FFR),fS (thr t) (nod n) (FWR.x x).5 (Int.toNat (TS.i {i:=0,bad:=false,out:=false})) (ftN0 (thr t) (nod n) (Int.tmod me (thr t)) (Int.tmod sp (nod n+1)) (bif ilt (List.getD tk (Int.toNat 0) 0) 65536 then aA (List.getD tk (Int.toNat 0) 0) 0 3 else 0) (bif ilt (List.getD tk (Int.toNat 0) 0) 65536 then aA (List.getD tk (Int.toNat 0) 0) 3 3 else 0) (bif ilt (List.getD tk (Int.toNat 0) 0) 65536 then aA (List.getD tk (Int.toNat 0) 0) 6 10 else 0) (Int.tmod (W lim) 8) (mkL (nod n) (Int.tmod sp (nod n+1)) ns)) (Int.tmod me (thr t)) (List.length (mkL (nod n) (Int.tmod sp (nod n+1)) ns)) x_1→bif x_1.9 then True∧bif !iS (↑(List.length (FWR.x x).5):Int) x_1.1 false then AVal.bool false=AVal.bool true else AVal.bool true=AVal.bool true else True∧bif !iS (↑(List.length (FWR.x x).5):Int) x_1.1 false then AVal.bool false=AVal.bool true else AVal.bool true=AVal.bool true
theorem F9(t n me sp u no lim:Int)(ws ns tk:List Int)(p:Nat)(fa fx:Nat→Int)(h:KB t n me sp u no lim ws ns tk p fa fx):cT' 4 [.agg [.int .u8 t,.int .u8 n,.iview (some .u64) ws],.agg [.int .u8 me,.int .u8 sp,.iview (some .u8) ns,.int .u8 u,.int .u8 no,.int .u8 lim,.iview (some .u64) tk],.view p 2 (fun i=>[.int .i64 (fa i),.int .u64 (fx i)])] ([]:aB Ob) (fun v _=>v=.bool true):=by
 refine cM' (E:=EFL) (by kernel_rfl) h
theorem PC(t n me sp sh kd ky most:Int)(R:List Int):bG t n sh kd ky most ⟨me,sp,R⟩=ftN0 t n me sp sh kd ky most R:=rfl
theorem IG(b:Bool):(bif b then b else !b)=true:=by cases b<;>rfl
theorem OU{A:List (List Int)}{e:Nat}(h:e+1=A.length):iS (A.length:Nat) ⟨((e+1:Nat):Int),false,false⟩ true=true:=by
 unfold iS
 rw [←h,cS];rfl
theorem OV{A:List (List Int)} :iS (A.length:Nat) ⟨(A.length:Nat),false,true⟩ false=true:=by
 unfold iS
 rw [cS];rfl
theorem OW{t n me sp sh kd ky most:Int}{A:List (List Int)}{R0:List Int}{o:FtO}{r:FFR}(h:xM t n (ftN0 t n me sp sh kd ky most R0) A o)(g:fS t n A 0 (ftN0 t n me sp sh kd ky most R0) me R0.length r):iS (A.length:Nat) r.s true=true∧vA me r o.p:=by
 obtain⟨X,S,e,he,h0,tr,ho⟩:=h
 rcases g.rel X S e tr h0 with⟨c,_⟩ | ⟨_,_,_,_,f⟩ | ⟨_,es,q⟩
 ·omega
 ·exact f.elim
 ·rw [es]
  rw [ho]at q
  exact⟨OU he,q⟩
theorem OX{t n me sp sh kd ky most:Int}{A:List (List Int)}{R0:List Int}{r:FFR}(h:xN t n (ftN0 t n me sp sh kd ky most R0) A)(g:fS t n A 0 (ftN0 t n me sp sh kd ky most R0) me R0.length r):iS (A.length:Nat) r.s false=true:=by
 obtain⟨X,S,h0,tr⟩:=h
 rcases g.rel X S A.length tr h0 with⟨_,es⟩ | ⟨_,_,_,_,f⟩ | ⟨c,_,_⟩
 ·rw [es];exact OV
 ·exact f.elim
 ·omega
theorem CK{T N ME SP sh kd ky most:Int}{ML:List Int}{x:FWR}{y:FFR}(hL:ML.length≤40)(he:x.en=true)(hx:rH T N (ftN0 T N ME SP sh kd ky most ML) x)(g:fS T N x.x.A 0 (ftN0 T N ME SP sh kd ky most ML) ME ML.length y):
 bif !iS (↑(List.length (FWR.x x).5):Int) y.1 true then AVal.bool false=AVal.bool true else bif bif ieq (FtO.x x.2).1 y.2 then bif bif (FtO.x x.2).2 then y.3 else !y.3 then bif ieq (FtO.x x.2).3 y.4 then true else false else false else false then bif bif (FtO.x x.2).4 then y.5 else !y.5 then bif ieq (FtO.x x.2).5 y.6 then bif ieq (FtO.st x.2).1 ME then bif ieq (FtO.st x.2).2 y.7 then((lE' (FtO.st x.2).3∧lE' y.8)∧List.length (FtO.st x.2).3≤(4294967296:Nat))∧AVal.bool (mM (FtO.st x.2).3 y.8)=AVal.bool true else AVal.bool false=AVal.bool true else AVal.bool false=AVal.bool true else AVal.bool false=AVal.bool true else AVal.bool false=AVal.bool true else AVal.bool false=AVal.bool true:=by
 obtain⟨f1,f2⟩:=OW (hx.e he) g
 have hl:=hx.l
 have hR:=g.hR
 rw [show(FWR.x x).5=x.x.A from rfl,show y.1=y.s from rfl,f1]
 obtain⟨t1,t2,t3,t4,t5,t6⟩:=f2
 have t1:(FtO.x x.2).1=y.2:=t1
 have t2:(FtO.x x.2).2=y.3:=t2
 have t3:(FtO.x x.2).3=y.4:=t3
 have t4:(FtO.x x.2).4=y.5:=t4
 have t5:(FtO.x x.2).5=y.6:=t5
 have t6:FtO.st x.2=⟨ME,y.sp,y.R⟩:=t6
 rw [t1,t2,t3,t4,t5,t6]
 dsimp only
 rw [cS,cS,cS,cS,cS,IG,IG,AT]
 exact⟨⟨⟨rfl,rfl⟩,by show y.R.length≤4294967296;omega⟩,rfl⟩
theorem zU(t n me sp u no lim:Int)(ws ns tk:List Int)(p:Nat)(fa fx:Nat→Int)(ht:0≤t∧t≤255)(hn:0≤n∧n≤255)(hme:0≤me∧me≤255)(hsp:0≤sp∧sp≤255)(hlim:0≤lim∧lim≤255)(hws:okW ws)(htk:okW tk)(hns: ∀v∈ns,0≤v∧v≤255)(hfx: ∀i,0≤fx i∧fx i≤18446744073709551615):KB t n me sp u no lim ws ns tk p fa fx:=by
 unfold KB
 have h1:=IV ht
 have h2:=HT hn
 have hW:okW (memW (thr t) (nod n) ws):=HW hws
 have hR:=PW (nod n) (Int.tmod sp (nod n+1)) ns (by omega) hns
 have hlen:=LG (nod n) (Int.tmod sp (nod n+1)) ns
 have hme2:=oL (x:=me) (t:=thr t) hme.1 (by omega)
 have hwl:W lim=lim:=dW (by omega)
 have hmost:=oL (x:=lim) (t:=8) hlim.1 (by omega)
 rw [hwl]
 generalize hsh:(bif ilt (List.getD tk (Int.toNat 0) 0) 65536 then aA (List.getD tk (Int.toNat 0) 0) 0 3 else 0)=SH
 generalize hkd:(bif ilt (List.getD tk (Int.toNat 0) 0) 65536 then aA (List.getD tk (Int.toNat 0) 0) 3 3 else 0)=KD
 generalize hky:(bif ilt (List.getD tk (Int.toNat 0) 0) 65536 then aA (List.getD tk (Int.toNat 0) 0) 6 10 else 0)=KY
 generalize memW (thr t) (nod n) ws=MW at hW⊢
 generalize mkL (nod n) (Int.tmod sp (nod n+1)) ns=ML at hR hlen⊢
 generalize Int.tmod sp (nod n+1)=SP
 generalize Int.tmod me (thr t)=ME at hme2⊢
 generalize thr t=T at h1 hme2⊢
 generalize nod n=N at h2 hR⊢
 generalize Int.tmod lim 8=MO at hmost⊢
 rw [PC]
 have hsm:kN ML:=fun r hr=>by have:=hR r hr;omega
 refine⟨trivial,aF (fun _=>rfl) (fun _=>aF (fun _=>rfl) (fun _=>tU (fun _=>rfl) (fun h40=>aF (fun _=>rfl) (fun hk=>?_))))⟩
 have hk0:0<tk.length:=by
  rw [bC,beq_eq_false_iff_ne]at hk
  omega
 have hg:0≤List.getD tk (Int.toNat 0) 0∧List.getD tk (Int.toNat 0) 0≤18446744073709551615:=by
  refine htk.h _ ?_
  show List.getD tk 0 0∈tk
  rw [gD',gE' hk0]
  exact List.getElem_mem hk0
 have st0:stW (ML.length:Int) ⟨ME,SP,ML⟩:=⟨by show 0≤ME∧ME≤1000;omega,hsm,Int.le_refl _⟩
 have w0:ftW T (ML.length:Int) ⟨ME,SP,ML⟩ (ftN0 T N ME SP SH KD KY MO ML).1:=RX (t:=T) SH KD KY MO (n:=N) ⟨h2.1,by omega⟩ st0
 refine⟨⟨ht,hn⟩,⟨Int.le_refl _,by omega⟩,hg,⟨⟨hme,hsp,⟨h1.1,by omega⟩,⟨h2.1,by omega⟩,by omega⟩,fun v hv=>hns v hv⟩,by decide,⟨rfl,KN SH KD KY MO ⟨h2.1,by omega⟩ st0⟩,⟨⟨rfl,rfl,rfl,rfl⟩,⟨h1.1,by omega⟩,⟨h2.1,by omega⟩,rfl,hW,⟨(ML.length:Int),⟨by omega,by omega⟩,w0,st0⟩,fa,fx,rfl,hfx⟩,?_⟩
 intro x hx
 have hx:rH T N (ftN0 T N ME SP SH KD KY MO ML) x:=hx
 have hl:=hx.l
 have fig:tG T N x.x.A 0 ME MO ML.length:=⟨hx.oA,by omega,Nat.zero_le _,by omega,by omega,by omega,by omega,by omega⟩
 refine aF (fun e=>⟨by decide,⟨rfl,rfl,rfl,rfl,Int.le_refl _,fig⟩,fun y hy=>?_⟩) (fun e=>⟨by decide,⟨rfl,rfl,rfl,rfl,Int.le_refl _,fig⟩,fun y hy=>?_⟩)
 ·have q:=CK (by omega) e hx hy
  exact aF (fun _=>⟨trivial,q⟩) (fun _=>⟨trivial,q⟩)
 ·have q:iS (↑(List.length (FWR.x x).5):Int) y.1 false=true:=OX (hx.u e) hy
  rw [q]
  exact aF (fun _=>⟨trivial,rfl⟩) (fun _=>⟨trivial,rfl⟩)
end Go.Sh
