/-
  The closed facts of RulesPrinted' row,one by one (together they ask too much of the kernel's memory). (And what it stands on.)
-/
import Derived.ProofKit
import Derived.OpenShut
import Derived.Deep.DeepHandedRow
import Derived.Test.YtlbbbapiklendaaGreatDoorCards
import Derived.Test.YtlbbbapiklendaaGreatDoorTie
import Derived.Test.YtlbbbapiklendaaGreatDoorMPathPart
import Derived.Test.YtlbbbapiklendaaGreatDoorMEvalPlain
namespace Go.Proofs.YtlbbbapiklendaaGreatDoor
open Go Go.ChangeShapes Go.WideShapes Go.ChangeAt Go.RowKit
theorem ownKnobNone:ownKnob Tryz.prog.godebug=none:=by kernel_rfl
def litVal:DataW Unit->Value
 | .lit (.int q n)=> .int q n
 | _=> .bool false
def X4(d:DataW Unit):Obj->Obj
 | .cells _ t frozen=> .cells (match d with | .agg ps=>(ps.map litVal).toArray|_=>#[]) t frozen
 | o=>o
def errText:DataW Unit->ByteArray
 | .iface _ (.ptr (.agg [.lit (.string b)]))=>⟨b.toArray⟩
 | _=>⟨#[]⟩
def layOne(v:Value):Obj->Obj
 | .cells _ t frozen=> .cells #[v] t frozen
 | o=>o
noncomputable def lowE:Nat:=(World.holding Tryz.prog default ⟨#[],#[],[]⟩).heap.size
noncomputable def layAll(h:Array Obj):Array Obj:=
 ((((h.modify 2 (layOne (.iface 284 (.pointer (some ⟨lowE,0,none⟩))))).modify 1 (layOne (.iface 284 (.pointer (some ⟨lowE+1,0,none⟩))))).modify 3 (X4 Rows.laid_internal_strconv_uint64pow10)).modify
  4 (X4 Rows.laid_math_bits_deBruijn32tab)).modify 5 (X4 Rows.laid_math_bits_deBruijn64tab)
noncomputable def N3(os:Os):World:=
 let w0:=World.holding Tryz.prog os ⟨#[.cells #[.string (errText Rows.laid_strconv_ErrRange)] 286,.cells #[.string (errText Rows.laid_strconv_ErrSyntax)] 286],#[],[]⟩
 { w0 with heap:=layAll w0.heap}
theorem laidVars_mem{P w}:∀{l:List (String×DataW Unit)} {ps:List MemPlace},DataW.LaidVars P w l ps->∀{n:String} {d:DataW Unit},(n,d)∈l ->
  ∃g t cs fuel p,P.globalNamed n=some g/\(P.globals[g]?).map (·.type)=some t/\w.var? P n=some cs/\DataW.trod (fun _=>()) P w 0 (fun _=>true) false fuel t cs.toList=some (d,p)
 | (n',d')::r,ps,h,n,d,hm=>by
  obtain⟨g,t,cs,fuel,p,q,h1,h2,h3,h4,h5,-⟩:=h;rcases List.mem_cons.1 hm with he|hm
  ·cases he;exact⟨g,t,cs,fuel,p,h1,h2,h3,h4⟩
  ·exact laidVars_mem h5 hm
theorem errNamed:Tryz.prog.globalNamed "strconv.ErrRange" = some 2:=by kernel_rfl
theorem errType:(Tryz.prog.globals[2]?).map (·.type)=some 113:=by kernel_rfl
theorem Tm{W l}(h:laidMet Tryz.prog l W)(hm:("strconv.ErrRange",Rows.laid_strconv_ErrRange)∈l):Lt W:=by
 obtain⟨ps,hv,-,-⟩:=h;obtain⟨g,t,cs,fuel,p,h1,h2,h3,h4⟩:=laidVars_mem hv hm;obtain rfl:=Option.some.inj (errNamed.symm.trans h1);obtain rfl:=Option.some.inj (errType.symm.trans h2);obtain⟨fuel',u,v,aA,-,-⟩:=iface_of_trod Tryz.underlying113 h4;refine⟨.iface u v,?_,.inr ⟨u,v,rfl⟩⟩;have:=World.var?_cell errNamed h3 0;obtain⟨cs⟩:=cs;simp only at aA;subst aA
 simpa using this
theorem powNamed:Tryz.prog.globalNamed "internal/strconv.uint64pow10" = some 3:=by kernel_rfl
theorem powType:(Tryz.prog.globals[3]?).map (·.type)=some 266:=by kernel_rfl
theorem powTab:Rows.laid_internal_strconv_uint64pow10=(Lib.tabData .u64 Lib.pow10Tab:DataW Unit):=by kernel_rfl
theorem Tn{W l}(h:laidMet Tryz.prog l W)(hm:("internal/strconv.uint64pow10",Rows.laid_internal_strconv_uint64pow10)∈l):Em W:=by
 obtain⟨ps,hv,-,-⟩:=h;obtain⟨g,t,cs,fuel,p,h1,h2,h3,h4⟩:=laidVars_mem hv hm;obtain rfl:=Option.some.inj (powNamed.symm.trans h1);obtain rfl:=Option.some.inj (powType.symm.trans h2);rw[powTab] at h4;unfold Em Lib.TabIs;rw[h3,<-Lib.cells_of_tab Tryz.underlying266 Tryz.underlying156 (by kernel_rfl) (by kernel_rfl) h4]
theorem Qa{W}(h:W.ShapedOpen Tryz.prog):StdB W:=
 cell_of_shapedOpen_int (zero:=#[.int .i64 0]) (t:=3) h (of_decide_eq_true (by kernel_rfl)) (by kernel_rfl) rfl (by kernel_rfl) (by kernel_rfl) Tryz.underlying3
end Go.Proofs.YtlbbbapiklendaaGreatDoor
namespace Go.Proofs.YtlbbbapiklendaaGreatDoor.pPrinted
open Go
theorem j1:(Rows.rulesPrintedRow.inPlace==Tryz.pinned.checked.prog.inPlace 4)=true:=by kernel_rfl
theorem j2:(Rows.rulesPrintedRow.unfollowed==Tryz.pinned.checked.prog.unfollowed 4)=true:=by kernel_rfl
theorem j3:(Rows.rulesPrintedRow.recurses==Tryz.pinned.checked.prog.recurses 4)=true:=by kernel_rfl
theorem j4:(Rows.rulesPrintedRow.named==Tryz.pinned.checked.prog.varsNamed 4)=true:=by kernel_rfl
theorem joined:joinedFacts Tryz.pinned.checked.prog 4 Tryz.f4 (OpenSpec.ofChange Rows.rulesPrintedSpec).bare Rows.rulesPrintedRow=true:=by
 unfold joinedFacts;rw[j1,j2,j3,j4]
 kernel_rfl
end Go.Proofs.YtlbbbapiklendaaGreatDoor.pPrinted
