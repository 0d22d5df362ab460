/-
 NumberBack: the whole text, the short text, the hexadecimal text and seventeen figures of any number are read as just that number; nine figures of a single are read as that single. No condition.
-/
import Derived.Test.YtbdaebagmmmijaaGreatDoorB1x12
import Derived.Test.YtbdaebagmmmijaaGreatDoorB1x13
import Derived.Test.YtbdaebagmmmijaaGreatDoorB1x14
import Derived.Test.YtbdaebagmmmijaaGreatDoorB1x15
import Derived.Test.YtbdaebagmmmijaaGreatDoorB1x16
import Derived.Test.YtbdaebagmmmijaaGreatDoorB1x10
import Derived.Test.YtbdaebagmmmijaaGreatDoorB1x11
import Derived.Test.YtbdaebagmmmijaaGreatDoorB1x06
set_option maxRecDepth 1000000
open Go.Proofs.Tryz renaming prog->zO7
open Go.IntKind renaming i64->iI,u64->uI,u32->uJ
noncomputable section
namespace Go.Proofs.YtbdaebagmmmijaaGreatDoor
open Go Go.RowKit Ev
def n2n:Tab:=l5 40 (atS [([.agg ⟨[.bool false, .string ⟨⟨[49]⟩⟩, .int .i64 3]⟩, .int .i64 1], .tuple ⟨[.float .f64 4652007308841189376, .agg ⟨[.bool false, .bool false, .bool false]⟩, .int .i64 0]⟩),([.agg ⟨[.bool false, .string ⟨⟨[49,50]⟩⟩, .int .i64 2]⟩, .int .i64 1], .tuple ⟨[.float .f64 4652992471259676672, .agg ⟨[.bool false, .bool false, .bool false]⟩, .int .i64 0]⟩),([.agg ⟨[.bool false, .string ⟨⟨[49,50,51]⟩⟩, .int .i64 1]⟩, .int .i64 1], .tuple ⟨[.float .f64 4653124412655009792, .agg ⟨[.bool false, .bool false, .bool false]⟩, .int .i64 0]⟩),([.agg ⟨[.bool false, .string ⟨⟨[49,50,51,52]⟩⟩, .int .i64 0]⟩, .int .i64 1], .tuple ⟨[.float .f64 4653142004841054208, .agg ⟨[.bool false, .bool false, .bool false]⟩, .int .i64 0]⟩),([.agg ⟨[.bool false, .string ⟨⟨[49,50,51,52,53]⟩⟩, .int .i64 (-1)]⟩, .int .i64 1], .tuple ⟨[.float .f64 4653144203864309760, .agg ⟨[.bool false, .bool false, .bool false]⟩, .int .i64 0]⟩),([.agg ⟨[.bool false, .string ⟨⟨[49]⟩⟩, .int .i64 (-1)]⟩, .int .i64 1], .tuple ⟨[.float .f64 4591870180066957722, .agg ⟨[.bool true, .bool false, .bool false]⟩, .int .i64 0]⟩),([.agg ⟨[.bool false, .string ⟨⟨[51]⟩⟩, .int .i64 0]⟩, .int .i64 1], .tuple ⟨[.float .f64 4613937818241073152, .agg ⟨[.bool false, .bool false, .bool false]⟩, .int .i64 0]⟩),([.agg ⟨[.bool false, .string ⟨⟨[50,56]⟩⟩, .int .i64 (-1)]⟩, .int .i64 1], .tuple ⟨[.float .f64 4613487458278336102, .agg ⟨[.bool true, .bool false, .bool false]⟩, .int .i64 0]⟩),([.agg ⟨[.bool false, .string ⟨⟨[50,55,53]⟩⟩, .int .i64 (-2)]⟩, .int .i64 1], .tuple ⟨[.float .f64 4613374868287651840, .agg ⟨[.bool false, .bool false, .bool false]⟩, .int .i64 0]⟩)]) (l5 54 (atS [([.agg ⟨[.bool false, .string ⟨⟨[49,50,51,52,53]⟩⟩, .int .i64 (-1)]⟩, .int .i64 1, .int .i64 1], .tuple ⟨[.agg ⟨[.bool false, .string ⟨⟨[49]⟩⟩, .int .i64 3]⟩, .int .i64 0]⟩),([.agg ⟨[.bool false, .string ⟨⟨[49,50,51,52,53]⟩⟩, .int .i64 (-1)]⟩, .int .i64 2, .int .i64 1], .tuple ⟨[.agg ⟨[.bool false, .string ⟨⟨[49,50]⟩⟩, .int .i64 2]⟩, .int .i64 0]⟩),([.agg ⟨[.bool false, .string ⟨⟨[49,50,51,52,53]⟩⟩, .int .i64 (-1)]⟩, .int .i64 3, .int .i64 1], .tuple ⟨[.agg ⟨[.bool false, .string ⟨⟨[49,50,51]⟩⟩, .int .i64 1]⟩, .int .i64 0]⟩),([.agg ⟨[.bool false, .string ⟨⟨[49,50,51,52,53]⟩⟩, .int .i64 (-1)]⟩, .int .i64 4, .int .i64 1], .tuple ⟨[.agg ⟨[.bool false, .string ⟨⟨[49,50,51,52]⟩⟩, .int .i64 0]⟩, .int .i64 0]⟩),([.agg ⟨[.bool false, .string ⟨⟨[49,50,51,52,53]⟩⟩, .int .i64 (-1)]⟩, .int .i64 5, .int .i64 1], .tuple ⟨[.agg ⟨[.bool false, .string ⟨⟨[49,50,51,52,53]⟩⟩, .int .i64 (-1)]⟩, .int .i64 0]⟩),([.agg ⟨[.bool false, .string ⟨⟨[50,55,53]⟩⟩, .int .i64 (-2)]⟩, .int .i64 1, .int .i64 1], .tuple ⟨[.agg ⟨[.bool false, .string ⟨⟨[51]⟩⟩, .int .i64 0]⟩, .int .i64 0]⟩),([.agg ⟨[.bool false, .string ⟨⟨[50,55,53]⟩⟩, .int .i64 (-2)]⟩, .int .i64 2, .int .i64 1], .tuple ⟨[.agg ⟨[.bool false, .string ⟨⟨[50,56]⟩⟩, .int .i64 (-1)]⟩, .int .i64 0]⟩),([.agg ⟨[.bool false, .string ⟨⟨[50,55,53]⟩⟩, .int .i64 (-2)]⟩, .int .i64 3, .int .i64 1], .tuple ⟨[.agg ⟨[.bool false, .string ⟨⟨[50,55,53]⟩⟩, .int .i64 (-2)]⟩, .int .i64 0]⟩),([.agg ⟨[.bool false, .string ⟨⟨[49,48,48,48,48,48,48,48,48,48,48,48,48,48,48,48,48,53,53,53,49,49,49,53,49,50,51,49,50,53,55,56,50,55,48,50,49,49,56,49,53,56,51,52,48,52,53,52,49,48,49,53,54,50,53]⟩⟩, .int .i64 (-55)]⟩, .int .i64 1, .int .i64 1], .tuple ⟨[.agg ⟨[.bool false, .string ⟨⟨[49]⟩⟩, .int .i64 (-1)]⟩, .int .i64 0]⟩)]) (l5 50 (atS [([.float .f64 4653144203864309760], .tuple ⟨[.agg ⟨[.bool false, .string ⟨⟨[49,50,51,52,53]⟩⟩, .int .i64 (-1)]⟩, .int .i64 0]⟩),([.float .f64 4591870180066957722], .tuple ⟨[.agg ⟨[.bool false, .string ⟨⟨[49,48,48,48,48,48,48,48,48,48,48,48,48,48,48,48,48,53,53,53,49,49,49,53,49,50,51,49,50,53,55,56,50,55,48,50,49,49,56,49,53,56,51,52,48,52,53,52,49,48,49,53,54,50,53]⟩⟩, .int .i64 (-55)]⟩, .int .i64 0]⟩),([.float .f64 4613374868287651840], .tuple ⟨[.agg ⟨[.bool false, .string ⟨⟨[50,55,53]⟩⟩, .int .i64 (-2)]⟩, .int .i64 0]⟩)]) (z0f)))
theorem q1y:Q0 zO7 J0 n2n:=b7 (O5 (fun p hp=>by simp only [zzA84,T3,V5] at hp; rcases hp with rfl | rfl | rfl | rfl | rfl | rfl | rfl | rfl | rfl <;> first | exact t2o | exact u2y | exact s2s | exact t2l | exact v2z | exact u2m | exact u2h | exact s2c | exact w2f)) (b7 (O5 (fun p hp=>by simp only [zzA84,T3,V5] at hp; rcases hp with rfl | rfl | rfl | rfl | rfl | rfl | rfl | rfl | rfl <;> first | exact w2i | exact u2j | exact u2c | exact t2m | exact r2t | exact u2w | exact v2b | exact s2y | exact x2n)) (b7 (O5 (fun p hp=>by simp only [zzA84,T3,V5] at hp; rcases hp with rfl | rfl | rfl <;> first | exact v2x | exact o2a | exact t2e)) (kZ)))
def bI1:Base:=⟨zO7,J0,true,n2n,F4,2000,I6⟩
theorem n2h:BaseOk bI1:=⟨progOk,q1y,n9 _ _,m0⟩
theorem v2l:Pure zO7 J0 23 [.float .f64 4591870180066957722] (.string ⟨⟨[48,46,49]⟩⟩):=
 d6 n2h 30 [] [] (l:=[]) (by kernel_rfl) trivial
def p2g:Tab:=l5 54 (atS [([.agg ⟨[.bool false, .string ⟨⟨[49,48,48,48,48,48,48,48,48,48,48,48,48,48,48,48,48,53,53,53,49,49,49,53,49,50,51,49,50,53,55,56,50,55,48,50,49,49,56,49,53,56,51,52,48,52,53,52,49,48,49,53,54,50,53]⟩⟩, .int .i64 (-55)]⟩, .int .i64 17, .int .i64 1], .tuple ⟨[.agg ⟨[.bool false, .string ⟨⟨[49,48,48,48,48,48,48,48,48,48,48,48,48,48,48,48,49]⟩⟩, .int .i64 (-17)]⟩, .int .i64 0]⟩)]) (l5 50 (atS [([.float .f64 4591870180066957722], .tuple ⟨[.agg ⟨[.bool false, .string ⟨⟨[49,48,48,48,48,48,48,48,48,48,48,48,48,48,48,48,48,53,53,53,49,49,49,53,49,50,51,49,50,53,55,56,50,55,48,50,49,49,56,49,53,56,51,52,48,52,53,52,49,48,49,53,54,50,53]⟩⟩, .int .i64 (-55)]⟩, .int .i64 0]⟩)]) (z0f))
theorem s1p:Q0 zO7 J0 p2g:=b7 (O5 (fun p hp=>by simp only [zzA84,T3,V5] at hp; rcases hp with rfl <;> first | exact o2g)) (b7 (O5 (fun p hp=>by simp only [zzA84,T3,V5] at hp; rcases hp with rfl <;> first | exact o2a)) (kZ))
def bCz:Base:=⟨zO7,J0,true,p2g,F4,2000,I6⟩
theorem n2u:BaseOk bCz:=⟨progOk,s1p,n9 _ _,m0⟩
theorem k2a:Ev.Pure zO7 J0 19 [.float .f64 4591870180066957722, .int .i64 17] (.tuple ⟨[.string ⟨⟨[49,46,48,48,48,48,48,48,48,48,48,48,48,48,48,48,48,49,101,45,49]⟩⟩, .int .i64 0]⟩):=
 d6 n2u 30 [] [] (l:=[]) (by kernel_rfl) trivial
def k2c:Tab:=l5 10 (atS [([.string ⟨⟨[48,120,49,46,56,112,49]⟩⟩], .tuple ⟨[.float .f64 4613937818241073152, .int .i64 0]⟩),([.string ⟨⟨[49,101,52,48,48]⟩⟩], .tuple ⟨[.float .f64 0, .int .i64 15]⟩)]) (l5 25 (atS [([.float .f64 4612811918334230528], .string ⟨⟨[48,120,49,46,52,112,49]⟩⟩)]) (l5 21 (atS [([.float .f64 13832806255468478464], .string ⟨⟨[45,49,46,53]⟩⟩)]) (l5 23 (atS [([.float .f64 4591870180066957722], .string ⟨⟨[48,46,49]⟩⟩)]) (l5 19 (atS [([.float .f64 4591870180066957722, .int .i64 17], .tuple ⟨[.string ⟨⟨[49,46,48,48,48,48,48,48,48,48,48,48,48,48,48,48,48,49,101,45,49]⟩⟩, .int .i64 0]⟩)]) (z0f)))))
theorem r1z:Q0 zO7 J0 k2c:=b7 (O5 (fun p hp=>by simp only [zzA84,T3,V5] at hp; rcases hp with rfl | rfl <;> first | exact u2e | exact t2q)) (b7 (O5 (fun p hp=>by simp only [zzA84,T3,V5] at hp; rcases hp with rfl <;> first | exact l2q)) (b7 (O5 (fun p hp=>by simp only [zzA84,T3,V5] at hp; rcases hp with rfl <;> first | exact r1o)) (b7 (O5 (fun p hp=>by simp only [zzA84,T3,V5] at hp; rcases hp with rfl <;> first | exact v2l)) (b7 (O5 (fun p hp=>by simp only [zzA84,T3,V5] at hp; rcases hp with rfl <;> first | exact k2a)) (kZ)))))
def bCw:Base:=⟨zO7,J0,true,k2c,F4,2000,I6⟩
theorem p2s:BaseOk bCw:=⟨progOk,r1z,n9 _ _,m0⟩
theorem n2r:Ev.Pure zO7 J0 7 [] (.bool true):=
 d6 p2s 30 [] [] (l:=[]) (by kernel_rfl) trivial
open Go Go.RowKit Ev Wd VaS
theorem f1f {a:Int} (w:(Lit.int .u64 a).wf=true):0<=a∧a < 18446744073709551616:=by
 simp only [Lit.wf,x5,aO] at w
 exact⟨w.1,Int.lt_of_le_of_lt w.2 (by decide)⟩
theorem q0e {f:FuncId} {vs:List Value} {v:Value} (h:Ev.Sem zO7 J0 f (vs.map fun x=> .c (.v x)) [.c (.v v)]) (h1:pureL vs=true) (h2:z7 v=true) (h3:M5 (vs.map fun x=>Arg.c (.v x)) vs=vs) (h4:∀ w,All2 (rX w) (t8 (vs.map fun x=>Arg.c (.v x))) vs):Ev.Pure zO7 J0 f vs v:=by
 refine⟨h1,h2, .inl ⟨h.1,fun w hI=> ?_⟩⟩
 have:=h.2 w vs hI (h4 w)
 rw [h3] at this
 refine this.mono fun e w' ⟨us',he,hb,hc,_⟩=> ?_
 obtain⟨y,ys,rfl,hy,hnil⟩:=hc.cons_inv
 obtain rfl:=hnil.nil_inv
 obtain⟨rfl,_⟩:=hy
 exact⟨he,hb⟩
theorem wE (a:Int) (w:(Lit.int .u64 a).wf=true):Ev.Pure zO7 J0 5 [.int .u64 a] (.bool true):=by
 obtain⟨h1,h2⟩:=f1f w
 obtain⟨x,rfl⟩:∃ x:Nat,a=(x:Int):=⟨a.toNat,by omega⟩
 exact q0e (vs:=[.int .u64 (x:Int)]) (wL (by omega) n2r) rfl rfl rfl (fun _=> .cons ⟨rfl,rfl⟩ .nil)
end Go.Proofs.YtbdaebagmmmijaaGreatDoor
